/-
  Contracts of functions, and plain facts about them, that a claim of this seat uses.
-/
import Derived.Test.YtnkmfkongmijfaaSx
import Derived.Test.YtnkmfkongmijfaaFdbP
import Derived.Test.YtnkmfkongmijfaaProg
namespace Go.Proofs.Ytnkmfkongmijfaa
open Go.Sx
set_option linter.unusedVariables false
set_option linter.unusedSimpArgs false
set_option maxRecDepth 100000

/-! fdb: places that are said. -/
def spBad (t : Ft) (p : Pl) (b : Int) : Prop := ¬ vidP p.vid ∨ b < 0 ∨ ((2 ^ t.n : Nat) : Int) ≤ b
instance (t : Ft) (p : Pl) (b : Int) : Decidable (spBad t p b) := by unfold spBad; infer_instance
def spFull (t : Ft) (p : Pl) : Prop := known t p = false ∧ t.room ≤ (t.al.length : Int)
instance (t : Ft) (p : Pl) : Decidable (spFull t p) := by unfold spFull; infer_instance
def spE (t : Ft) (p : Pl) (b : Int) : Int := if spBad t p b then 1 else if b = 0 then 0 else if spFull t p then 30 else 0
def spT (t : Ft) (p : Pl) (b : Int) : Ft := if spBad t p b then t else if b = 0 then { t with al := mpDel t.al (plK p) } else if spFull t p then t else { t with al := mpPut t.al (plK p) [b, 1, 0] t.ca, ca := mpTick t.al (plK p) t.ca }
theorem sp_1 {t : Ft} {p : Pl} {b : Int} (h : spBad t p b) : spE t p b = 1 ∧ spT t p b = t := ⟨if_pos h, if_pos h⟩
theorem sp_del {t : Ft} {p : Pl} {b : Int} (h : ¬ spBad t p b) (h0 : b = 0) : spE t p b = 0 ∧ spT t p b = { t with al := mpDel t.al (plK p) } := by
  unfold spE spT
  rw [if_neg h, if_neg h, if_pos h0, if_pos h0]; exact ⟨rfl, rfl⟩
theorem sp_30 {t : Ft} {p : Pl} {b : Int} (h : ¬ spBad t p b) (h0 : ¬ b = 0) (h1 : spFull t p) : spE t p b = 30 ∧ spT t p b = t := by
  unfold spE spT
  rw [if_neg h, if_neg h, if_neg h0, if_neg h0, if_pos h1, if_pos h1]; exact ⟨rfl, rfl⟩
theorem sp_put {t : Ft} {p : Pl} {b : Int} (h : ¬ spBad t p b) (h0 : ¬ b = 0) (h1 : ¬ spFull t p) : spE t p b = 0 ∧ spT t p b = { t with al := mpPut t.al (plK p) [b, 1, 0] t.ca, ca := mpTick t.al (plK p) t.ca } := by
  unfold spE spT
  rw [if_neg h, if_neg h, if_neg h0, if_neg h0, if_neg h1, if_neg h1]; exact ⟨rfl, rfl⟩
theorem del_len (L : List MRow) (k : List Int) : (mpDel L k).length ≤ L.length := List.length_filter_le _ _
theorem full_no {t : Ft} {p : Pl} (h : ¬ t.room ≤ (t.al.length : Int)) : ¬ spFull t p := fun hh => h hh.2
theorem full_kn {t : Ft} {p : Pl} (h : known t p = true) : ¬ spFull t p := fun hh => by have h2 := hh.1; rw [h] at h2; cases h2
theorem full_has {t : Ft} {p : Pl} (h : ¬ spFull t p) : ¬ (mpHas t.al (plK p) = false ∧ t.room ≤ (t.al.length : Int)) := known_has t p ▸ h
noncomputable def cxSp : Cx Try.prog := { ps := [vidS, grpS], es := [], is := [], n0 := 1, loops := fun _ => none, cuts := fun _ => none, xr := xrs, xa := xas, held := fun i => match i with
  | 6 => some (true, .take 0 (.take 1 (.take 2 (.take 3 (.take 4 (.two 5 (.take 6 (.take 7 (.take 8 (.one 9 (.one 10 (.take 11 .done)))))) 9 (.one 5 (.take 6 (.take 7 (.take 8 (.one 10 (.take 11 .done))))))))))))
  | _ => none }
section
attribute [local irreducible] anyO
set_option maxHeartbeats 8000000 in
theorem sp_runs (t : Ft) (y : Pl × Int) (hp : PlW y.1) (h : FH) (hi : FtInv t h) : Runs cxSp Try.f17 (.one (.a (.ptr 0 0)) :: [.one (plC y.1), int_ .i64 y.2]) (ftMem t h) fun v m => ghosted (fun _ _ => []) v m fun v m => anyO ftK (ftRen m) v m [.one (int_ .i64 (spE t y.1 y.2)) (ftP (spT t y.1 y.2))] := by
  obtain ⟨p, b⟩ := y
  obtain ⟨p1, p2⟩ := hp.vid
  obtain ⟨⟨q1, r1⟩, ⟨q2, r2⟩, ⟨q3, r3⟩, ⟨q4, r4⟩, ⟨q5, r5⟩, ⟨q6, r6⟩⟩ := hp.m
  have n8 := hi.n.2
  have s1 := sh1 (n := t.n) (by omega)
  have hnb : (!vidB p.vid) = false → ¬ b < 0 → ¬ IntKind.i64.wrap (1 * 2 ^ min ((t.n : Nat) : Int).toNat IntKind.i64.bits) ≤ b → ¬ spBad t p b := fun h1 h2 h3 hb => by
    rcases hb with hb | hb | hb
    · exact hb (vid_t (not_f h1))
    · exact h2 hb
    · rw [← s1] at hb; exact h3 hb
  repeat' (first | with_reducible exact trivial | with_reducible exact rfl | with_reducible exact Nat.le_refl _ | with_reducible exact (fun _ _ => rfl) | ((conv => whnf); first | (exact fun h => absurd h (by decide)) | (intro h9; (have h8 := of_decide_eq_true (p := type_of% h9) (by decide)); clear h8 h9) | (refine fun _ => ?_) | refine ⟨?_, ?_⟩ | exact trivial | exact Nat.le_refl _ | exact lex_q (by kernel_rfl) | exact lex_t (by kernel_rfl) | exact lex_h (by kernel_rfl) | fail))
  all_goals (try dsimp only at *)
  all_goals (try assumption)
  all_goals (try omega)
  · obtain ⟨e1, e2⟩ := sp_1 (t := t) (p := p) (b := b) (.inl (vid_f (not_t (by assumption : (!vidB p.vid) = true))))
    rw [e1, e2]
    (conv => whnf); refine o_one ⟨_, _, _, _, _, _, _, _, _, _, _, _⟩ (by (repeat' (first | ((conv => whnf); first | refine ⟨?_, ?_⟩ | exact trivial | fail) | (dsimp only; done) | ((try dsimp only); first | with_reducible exact rfl | exact Nat.le_refl _ | with_reducible exact (fun _ _ => rfl)))); all_goals ((first | rfl))) ?_; exact hi
  · obtain ⟨e1, e2⟩ := sp_1 (t := t) (p := p) (b := b) (.inr (.inl (by assumption)))
    rw [e1, e2]
    (conv => whnf); refine o_one ⟨_, _, _, _, _, _, _, _, _, _, _, _⟩ (by (repeat' (first | ((conv => whnf); first | refine ⟨?_, ?_⟩ | exact trivial | fail) | (dsimp only; done) | ((try dsimp only); first | with_reducible exact rfl | exact Nat.le_refl _ | with_reducible exact (fun _ _ => rfl)))); all_goals ((first | rfl))) ?_; exact hi
  · obtain ⟨e1, e2⟩ := sp_1 (t := t) (p := p) (b := b) (.inr (.inr (by rw [← s1]; assumption)))
    rw [e1, e2]
    (conv => whnf); refine o_one ⟨_, _, _, _, _, _, _, _, _, _, _, _⟩ (by (repeat' (first | ((conv => whnf); first | refine ⟨?_, ?_⟩ | exact trivial | fail) | (dsimp only; done) | ((try dsimp only); first | with_reducible exact rfl | exact Nat.le_refl _ | with_reducible exact (fun _ _ => rfl)))); all_goals ((first | rfl))) ?_; exact hi
  · have hb := hnb (by assumption) (by assumption) (by assumption)
    obtain ⟨e1, e2⟩ := sp_del hb (by assumption)
    rw [e1, e2]
    (conv => whnf); refine o_one ⟨_, _, _, _, _, _, _, _, _, _, _, _⟩ (by (repeat' (first | ((conv => whnf); first | refine ⟨?_, ?_⟩ | exact trivial | fail) | (dsimp only; done) | ((try dsimp only); first | with_reducible exact rfl | exact Nat.le_refl _ | with_reducible exact (fun _ _ => rfl)))); all_goals ((first | rfl))) ?_; exact ⟨hi.n, hi.room, hi.cap, hi.at_, hi.al.del _, Int.le_trans (Int.ofNat_le.2 (del_len _ _)) hi.le, hi.pv⟩
  · have hb := hnb (by assumption) (by assumption) (by assumption)
    obtain ⟨e1, e2⟩ := sp_30 hb (by assumption) ⟨not_t (by assumption : (!known t p) = true), by assumption⟩
    rw [e1, e2]
    (conv => whnf); refine o_one ⟨_, _, _, _, _, _, _, _, _, _, _, _⟩ (by (repeat' (first | ((conv => whnf); first | refine ⟨?_, ?_⟩ | exact trivial | fail) | (dsimp only; done) | ((try dsimp only); first | with_reducible exact rfl | exact Nat.le_refl _ | with_reducible exact (fun _ _ => rfl)))); all_goals ((first | rfl))) ?_; exact hi
  · have hb := hnb (by assumption) (by assumption) (by assumption)
    have hf : ¬ spFull t p := full_no (by assumption)
    obtain ⟨e1, e2⟩ := sp_put hb (by assumption) hf
    rw [e1, e2]
    (conv => whnf); refine o_one ⟨_, _, _, _, _, _, _, _, _, _, _, _⟩ (by (repeat' (first | ((conv => whnf); first | refine ⟨?_, ?_⟩ | exact trivial | fail) | (dsimp only; done) | ((try dsimp only); first | with_reducible exact rfl | exact Nat.le_refl _ | with_reducible exact (fun _ _ => rfl)))); all_goals ((first | rfl))) ?_; exact ⟨hi.n, hi.room, hi.cap, hi.at_, hi.al.put hp, put_len (full_has hf) hi.le, hi.pv⟩
  · have hb := hnb (by assumption) (by assumption) (by assumption)
    have hf : ¬ spFull t p := full_kn (not_f (by assumption : (!known t p) = false))
    obtain ⟨e1, e2⟩ := sp_put hb (by assumption) hf
    rw [e1, e2]
    (conv => whnf); refine o_one ⟨_, _, _, _, _, _, _, _, _, _, _, _⟩ (by (repeat' (first | ((conv => whnf); first | refine ⟨?_, ?_⟩ | exact trivial | fail) | (dsimp only; done) | ((try dsimp only); first | with_reducible exact rfl | exact Nat.le_refl _ | with_reducible exact (fun _ _ => rfl)))); all_goals ((first | rfl))) ?_; exact ⟨hi.n, hi.room, hi.cap, hi.at_, hi.al.put hp, put_len (full_has hf) hi.le, hi.pv⟩
  · have hb := hnb (by assumption) (by assumption) (by assumption)
    obtain ⟨e1, e2⟩ := sp_30 hb (by assumption) ⟨not_t (by assumption : (!known t p) = true), by assumption⟩
    rw [e1, e2]
    (conv => whnf); refine o_one ⟨_, _, _, _, _, _, _, _, _, _, _, _⟩ (by (repeat' (first | ((conv => whnf); first | refine ⟨?_, ?_⟩ | exact trivial | fail) | (dsimp only; done) | ((try dsimp only); first | with_reducible exact rfl | exact Nat.le_refl _ | with_reducible exact (fun _ _ => rfl)))); all_goals ((first | rfl))) ?_; exact hi
  · have hb := hnb (by assumption) (by assumption) (by assumption)
    have hf : ¬ spFull t p := full_no (by assumption)
    obtain ⟨e1, e2⟩ := sp_put hb (by assumption) hf
    rw [e1, e2]
    (conv => whnf); refine o_one ⟨_, _, _, _, _, _, _, _, _, _, _, _⟩ (by (repeat' (first | ((conv => whnf); first | refine ⟨?_, ?_⟩ | exact trivial | fail) | (dsimp only; done) | ((try dsimp only); first | with_reducible exact rfl | exact Nat.le_refl _ | with_reducible exact (fun _ _ => rfl)))); all_goals ((first | rfl))) ?_; exact ⟨hi.n, hi.room, hi.cap, hi.at_, hi.al.put hp, put_len (full_has hf) hi.le, hi.pv⟩
  · have hb := hnb (by assumption) (by assumption) (by assumption)
    have hf : ¬ spFull t p := full_kn (not_f (by assumption : (!known t p) = false))
    obtain ⟨e1, e2⟩ := sp_put hb (by assumption) hf
    rw [e1, e2]
    (conv => whnf); refine o_one ⟨_, _, _, _, _, _, _, _, _, _, _, _⟩ (by (repeat' (first | ((conv => whnf); first | refine ⟨?_, ?_⟩ | exact trivial | fail) | (dsimp only; done) | ((try dsimp only); first | with_reducible exact rfl | exact Nat.le_refl _ | with_reducible exact (fun _ _ => rfl)))); all_goals ((first | rfl))) ?_; exact ⟨hi.n, hi.room, hi.cap, hi.at_, hi.al.put hp, put_len (full_has hf) hi.le, hi.pv⟩
end
noncomputable def spS : ESpec Try.prog := obN fn17 82 ftK (.s2 Lens.pl (.int .i64)) ftR ftP ftR_ok (fun _ => rfl) (fun _ _ _ => cxSp) (fun _ y => PlW y.1) (fun t y => [.one (int_ .i64 (spE t y.1 y.2)) (ftP (spT t y.1 y.2))]) (fun _ _ => []) (fun _ m => ftRen m) (fun _ _ _ => rfl) (fun t y hp h hi => sp_runs t y hp h hi)

end Go.Proofs.Ytnkmfkongmijfaa
