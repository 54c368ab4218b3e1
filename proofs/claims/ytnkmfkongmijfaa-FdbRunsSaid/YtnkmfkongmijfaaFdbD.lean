/-
  Contracts of functions, and plain facts about them, that a claim of this seat uses.
-/
import Derived.Test.YtnkmfkongmijfaaSx
import Derived.Test.YtnkmfkongmijfaaFdbC
import Derived.Test.YtnkmfkongmijfaaProg
namespace Go.Proofs.Ytnkmfkongmijfaa
open Go.Sx
set_option linter.unusedVariables false
set_option linter.unusedSimpArgs false
set_option maxRecDepth 100000

/-! fdb: Learn, SetPlace. -/
def grp (p : Pl) : Prop := bits .and .u8 p.m0 1 = 1
instance (p : Pl) : Decidable (grp p) := by unfold grp; exact inferInstance
def vidP (x : Int) : Prop := 1 ≤ x ∧ x ≤ 4094
instance (x : Int) : Decidable (vidP x) := by unfold vidP; exact inferInstance
theorem vid_t {x : Int} (h : vidB x = true) : vidP x := of_decide_eq_true h
theorem vid_f {x : Int} (h : vidB x = false) : ¬ vidP x := of_decide_eq_false h
def isSt (t : Ft) (p : Pl) : Bool := decide (cellI (aGet t p) 1 = 1)
def known (t : Ft) (p : Pl) : Bool := (aGet t p).isSome
/-- what keeps an address from being learnt: an error, or (0) that it is said for good -/
theorem known_has (t : Ft) (p : Pl) : known t p = mpHas t.al (plK p) := mp_some _ _
def lrNo (t : Ft) (p : Pl) (a : Int) : Option Int :=
  if ¬ vidP p.vid then some 1 else if a < 0 ∨ (t.n : Int) ≤ a then some 40 else if grp p then some 23 else if isSt t p = true then some 0 else if known t p = false ∧ t.room ≤ (t.al.length : Int) then some 30 else none
def lrE (t : Ft) (p : Pl) (a : Int) : Int := (lrNo t p a).getD 0
def lrT (t : Ft) (p : Pl) (a now : Int) : Ft := match lrNo t p a with
  | some _ => t
  | none => { t with al := mpPut t.al (plK p) [bitI a, 0, now] t.ca, ca := mpTick t.al (plK p) t.ca }
theorem lr_no {t : Ft} {p : Pl} {a now e : Int} (h : lrNo t p a = some e) : lrE t p a = e ∧ lrT t p a now = t := by
  unfold lrE lrT; rw [h]; exact ⟨rfl, rfl⟩
theorem lr_yes {t : Ft} {p : Pl} {a now : Int} (h : lrNo t p a = none) : lrE t p a = 0 ∧ lrT t p a now = { t with al := mpPut t.al (plK p) [bitI a, 0, now] t.ca, ca := mpTick t.al (plK p) t.ca } := by
  unfold lrE lrT; rw [h]; exact ⟨rfl, rfl⟩
theorem lr_1 {t : Ft} {p : Pl} {a : Int} (h : ¬ vidP p.vid) : lrNo t p a = some 1 := if_pos h
theorem lr_40 {t : Ft} {p : Pl} {a : Int} (h : vidP p.vid) (h2 : a < 0 ∨ (t.n : Int) ≤ a) : lrNo t p a = some 40 := by
  unfold lrNo; rw [if_neg (fun hn => hn h), if_pos h2]
theorem lr_23 {t : Ft} {p : Pl} {a : Int} (h : vidP p.vid) (h2 : ¬ (a < 0 ∨ (t.n : Int) ≤ a)) (h3 : grp p) : lrNo t p a = some 23 := by
  unfold lrNo; rw [if_neg (fun hn => hn h), if_neg h2, if_pos h3]
theorem lr_0 {t : Ft} {p : Pl} {a : Int} (h : vidP p.vid) (h2 : ¬ (a < 0 ∨ (t.n : Int) ≤ a)) (h3 : ¬ grp p) (h4 : isSt t p = true) : lrNo t p a = some 0 := by
  unfold lrNo; rw [if_neg (fun hn => hn h), if_neg h2, if_neg h3, if_pos h4]
theorem lr_30 {t : Ft} {p : Pl} {a : Int} (h : vidP p.vid) (h2 : ¬ (a < 0 ∨ (t.n : Int) ≤ a)) (h3 : ¬ grp p) (h4 : isSt t p = false) (h5 : known t p = false ∧ t.room ≤ (t.al.length : Int)) : lrNo t p a = some 30 := by
  unfold lrNo; rw [if_neg (fun hn => hn h), if_neg h2, if_neg h3, if_neg (by rw [h4]; decide), if_pos h5]
theorem lr_go {t : Ft} {p : Pl} {a : Int} (h : vidP p.vid) (h2 : ¬ (a < 0 ∨ (t.n : Int) ≤ a)) (h3 : ¬ grp p) (h4 : isSt t p = false) (h5 : ¬ (known t p = false ∧ t.room ≤ (t.al.length : Int))) : lrNo t p a = none := by
  unfold lrNo; rw [if_neg (fun hn => hn h), if_neg h2, if_neg h3, if_neg (by rw [h4]; decide), if_neg h5]
theorem not_t {b : Bool} (h : (!b) = true) : b = false := by cases b <;> first | rfl | cases h
theorem not_f {b : Bool} (h : (!b) = false) : b = true := by cases b <;> first | rfl | cases h
noncomputable def cxLr : Cx Try.prog := { ps := [vidS, grpS], es := [], is := [], n0 := 1, loops := fun _ => none, cuts := fun _ => none, xr := xrs, xa := xas, held := fun i => match i with
  | 7 => some (true, .take 0 (.take 1 (.take 2 (.take 3 (.take 4 (.two 5 (.take 6 (.take 7 (.take 8 (.one 9 (.one 10 (.take 11 .done)))))) 9 (.one 5 (.take 6 (.take 7 (.take 8 (.one 10 (.take 11 .done))))))))))))
  | _ => none }
section
attribute [local irreducible] anyO
set_option maxHeartbeats 8000000 in
theorem lr_runs (t : Ft) (y : Pl × Int × Int) (hp : PlW y.1) (h : FH) (hi : FtInv t h) : Runs cxLr Try.f13 (.one (.a (.ptr 0 0)) :: [.one (plC y.1), int_ .i64 y.2.1, int_ .i64 y.2.2]) (ftMem t h) fun v m => ghosted (fun _ _ => []) v m fun v m => anyO ftK (ftRen m) v m [.one (int_ .i64 (lrE t y.1 y.2.1)) (ftP (lrT t y.1 y.2.1 y.2.2))] := by
  obtain ⟨p, a, now⟩ := y
  obtain ⟨p1, p2⟩ := hp.vid
  obtain ⟨⟨q1, r1⟩, ⟨q2, r2⟩, ⟨q3, r3⟩, ⟨q4, r4⟩, ⟨q5, r5⟩, ⟨q6, r6⟩⟩ := hp.m
  repeat' (first | with_reducible exact trivial | with_reducible exact rfl | with_reducible exact Nat.le_refl _ | with_reducible exact (fun _ _ => rfl) | ((conv => whnf); first | (exact fun h => absurd h (by decide)) | (intro h9; (have h8 := of_decide_eq_true (p := type_of% h9) (by decide)); clear h8 h9) | (refine fun _ => ?_) | refine ⟨?_, ?_⟩ | exact trivial | exact Nat.le_refl _ | exact lex_q (by kernel_rfl) | exact lex_t (by kernel_rfl) | exact lex_h (by kernel_rfl) | fail))
  all_goals (try dsimp only at *)
  all_goals (try assumption)
  all_goals (try omega)
  · have hv := vid_f (not_t (by assumption : (!vidB p.vid) = true))
    obtain ⟨e1, e2⟩ := lr_no (now := now) (lr_1 hv)
    rw [e1, e2]
    (conv => whnf); refine o_one ⟨_, _, _, _, _, _, _, _, _, _, _, _⟩ (by (repeat' (first | ((conv => whnf); first | refine ⟨?_, ?_⟩ | exact trivial | fail) | (dsimp only; done) | ((try dsimp only); first | with_reducible exact rfl | exact Nat.le_refl _ | with_reducible exact (fun _ _ => rfl)))); all_goals ((first | rfl))) ?_; exact hi
  · have hv := vid_t (not_f (by assumption : (!vidB p.vid) = false))
    obtain ⟨e1, e2⟩ := lr_no (now := now) (lr_40 hv (.inl (by assumption)))
    rw [e1, e2]
    (conv => whnf); refine o_one ⟨_, _, _, _, _, _, _, _, _, _, _, _⟩ (by (repeat' (first | ((conv => whnf); first | refine ⟨?_, ?_⟩ | exact trivial | fail) | (dsimp only; done) | ((try dsimp only); first | with_reducible exact rfl | exact Nat.le_refl _ | with_reducible exact (fun _ _ => rfl)))); all_goals ((first | rfl))) ?_; exact hi
  · have hv := vid_t (not_f (by assumption : (!vidB p.vid) = false))
    obtain ⟨e1, e2⟩ := lr_no (now := now) (lr_40 hv (.inr (by assumption)))
    rw [e1, e2]
    (conv => whnf); refine o_one ⟨_, _, _, _, _, _, _, _, _, _, _, _⟩ (by (repeat' (first | ((conv => whnf); first | refine ⟨?_, ?_⟩ | exact trivial | fail) | (dsimp only; done) | ((try dsimp only); first | with_reducible exact rfl | exact Nat.le_refl _ | with_reducible exact (fun _ _ => rfl)))); all_goals ((first | rfl))) ?_; exact hi
  · have hv := vid_t (not_f (by assumption : (!vidB p.vid) = false))
    have hr : ¬ (a < 0 ∨ (t.n : Int) ≤ a) := by omega
    have hg : grp p := of_decide_eq_true (by assumption : decide (bits .and .u8 p.m0 1 = 1) = true)
    obtain ⟨e1, e2⟩ := lr_no (now := now) (lr_23 hv hr hg)
    rw [e1, e2]
    (conv => whnf); refine o_one ⟨_, _, _, _, _, _, _, _, _, _, _, _⟩ (by (repeat' (first | ((conv => whnf); first | refine ⟨?_, ?_⟩ | exact trivial | fail) | (dsimp only; done) | ((try dsimp only); first | with_reducible exact rfl | exact Nat.le_refl _ | with_reducible exact (fun _ _ => rfl)))); all_goals ((first | rfl))) ?_; exact hi
  · have hv := vid_t (not_f (by assumption : (!vidB p.vid) = false))
    have hr : ¬ (a < 0 ∨ (t.n : Int) ≤ a) := by omega
    have hg : ¬ grp p := of_decide_eq_false (by assumption : decide (bits .and .u8 p.m0 1 = 1) = false)
    have hs := (by assumption : isSt t p = true)
    obtain ⟨e1, e2⟩ := lr_no (now := now) (lr_0 hv hr hg hs)
    rw [e1, e2]
    (conv => whnf); refine o_one ⟨_, _, _, _, _, _, _, _, _, _, _, _⟩ (by (repeat' (first | ((conv => whnf); first | refine ⟨?_, ?_⟩ | exact trivial | fail) | (dsimp only; done) | ((try dsimp only); first | with_reducible exact rfl | exact Nat.le_refl _ | with_reducible exact (fun _ _ => rfl)))); all_goals ((first | rfl))) ?_; exact hi
  · have hv := vid_t (not_f (by assumption : (!vidB p.vid) = false))
    have hr : ¬ (a < 0 ∨ (t.n : Int) ≤ a) := by omega
    have hg : ¬ grp p := of_decide_eq_false (by assumption : decide (bits .and .u8 p.m0 1 = 1) = false)
    have hs := (by assumption : isSt t p = false)
    have hk := not_t (by assumption : (!known t p) = true)
    obtain ⟨e1, e2⟩ := lr_no (now := now) (lr_30 hv hr hg hs ⟨hk, by assumption⟩)
    rw [e1, e2]
    (conv => whnf); refine o_one ⟨_, _, _, _, _, _, _, _, _, _, _, _⟩ (by (repeat' (first | ((conv => whnf); first | refine ⟨?_, ?_⟩ | exact trivial | fail) | (dsimp only; done) | ((try dsimp only); first | with_reducible exact rfl | exact Nat.le_refl _ | with_reducible exact (fun _ _ => rfl)))); all_goals ((first | rfl))) ?_; exact hi
  · have hv := vid_t (not_f (by assumption : (!vidB p.vid) = false))
    have hr : ¬ (a < 0 ∨ (t.n : Int) ≤ a) := by omega
    have hg : ¬ grp p := of_decide_eq_false (by assumption : decide (bits .and .u8 p.m0 1 = 1) = false)
    have hs := (by assumption : isSt t p = false)
    have hroom : ¬ (known t p = false ∧ t.room ≤ (t.al.length : Int)) := fun hh => (by assumption : ¬ t.room ≤ (t.al.length : Int)) hh.2
    obtain ⟨e1, e2⟩ := lr_yes (now := now) (lr_go hv hr hg hs hroom)
    rw [e1, e2]
    (conv => whnf); refine o_one ⟨_, _, _, _, _, _, _, _, _, _, _, _⟩ (by (repeat' (first | ((conv => whnf); first | refine ⟨?_, ?_⟩ | exact trivial | fail) | (dsimp only; done) | ((try dsimp only); first | with_reducible exact rfl | exact Nat.le_refl _ | with_reducible exact (fun _ _ => rfl)))); all_goals ((first | rfl))) ?_; exact ⟨hi.n, hi.room, hi.cap, hi.at_, hi.al.put hp, put_len (known_has t p ▸ hroom) hi.le, hi.pv⟩
  · have hv := vid_t (not_f (by assumption : (!vidB p.vid) = false))
    have hr : ¬ (a < 0 ∨ (t.n : Int) ≤ a) := by omega
    have hg : ¬ grp p := of_decide_eq_false (by assumption : decide (bits .and .u8 p.m0 1 = 1) = false)
    have hs := (by assumption : isSt t p = false)
    have hk := not_f (by assumption : (!known t p) = false)
    have hroom : ¬ (known t p = false ∧ t.room ≤ (t.al.length : Int)) := fun hh => by rw [hk] at hh; cases hh.1
    obtain ⟨e1, e2⟩ := lr_yes (now := now) (lr_go hv hr hg hs hroom)
    rw [e1, e2]
    (conv => whnf); refine o_one ⟨_, _, _, _, _, _, _, _, _, _, _, _⟩ (by (repeat' (first | ((conv => whnf); first | refine ⟨?_, ?_⟩ | exact trivial | fail) | (dsimp only; done) | ((try dsimp only); first | with_reducible exact rfl | exact Nat.le_refl _ | with_reducible exact (fun _ _ => rfl)))); all_goals ((first | rfl))) ?_; exact ⟨hi.n, hi.room, hi.cap, hi.at_, hi.al.put hp, put_len (known_has t p ▸ hroom) hi.le, hi.pv⟩
  · have hv := vid_t (not_f (by assumption : (!vidB p.vid) = false))
    have hr : ¬ (a < 0 ∨ (t.n : Int) ≤ a) := by omega
    have hg : ¬ grp p := of_decide_eq_false (by assumption : decide (bits .and .u8 p.m0 1 = 1) = false)
    have hs := (by assumption : isSt t p = true)
    obtain ⟨e1, e2⟩ := lr_no (now := now) (lr_0 hv hr hg hs)
    rw [e1, e2]
    (conv => whnf); refine o_one ⟨_, _, _, _, _, _, _, _, _, _, _, _⟩ (by (repeat' (first | ((conv => whnf); first | refine ⟨?_, ?_⟩ | exact trivial | fail) | (dsimp only; done) | ((try dsimp only); first | with_reducible exact rfl | exact Nat.le_refl _ | with_reducible exact (fun _ _ => rfl)))); all_goals ((first | rfl))) ?_; exact hi
  · have hv := vid_t (not_f (by assumption : (!vidB p.vid) = false))
    have hr : ¬ (a < 0 ∨ (t.n : Int) ≤ a) := by omega
    have hg : ¬ grp p := of_decide_eq_false (by assumption : decide (bits .and .u8 p.m0 1 = 1) = false)
    have hs := (by assumption : isSt t p = false)
    have hk := not_t (by assumption : (!known t p) = true)
    obtain ⟨e1, e2⟩ := lr_no (now := now) (lr_30 hv hr hg hs ⟨hk, by assumption⟩)
    rw [e1, e2]
    (conv => whnf); refine o_one ⟨_, _, _, _, _, _, _, _, _, _, _, _⟩ (by (repeat' (first | ((conv => whnf); first | refine ⟨?_, ?_⟩ | exact trivial | fail) | (dsimp only; done) | ((try dsimp only); first | with_reducible exact rfl | exact Nat.le_refl _ | with_reducible exact (fun _ _ => rfl)))); all_goals ((first | rfl))) ?_; exact hi
  · have hv := vid_t (not_f (by assumption : (!vidB p.vid) = false))
    have hr : ¬ (a < 0 ∨ (t.n : Int) ≤ a) := by omega
    have hg : ¬ grp p := of_decide_eq_false (by assumption : decide (bits .and .u8 p.m0 1 = 1) = false)
    have hs := (by assumption : isSt t p = false)
    have hroom : ¬ (known t p = false ∧ t.room ≤ (t.al.length : Int)) := fun hh => (by assumption : ¬ t.room ≤ (t.al.length : Int)) hh.2
    obtain ⟨e1, e2⟩ := lr_yes (now := now) (lr_go hv hr hg hs hroom)
    rw [e1, e2]
    (conv => whnf); refine o_one ⟨_, _, _, _, _, _, _, _, _, _, _, _⟩ (by (repeat' (first | ((conv => whnf); first | refine ⟨?_, ?_⟩ | exact trivial | fail) | (dsimp only; done) | ((try dsimp only); first | with_reducible exact rfl | exact Nat.le_refl _ | with_reducible exact (fun _ _ => rfl)))); all_goals ((first | rfl))) ?_; exact ⟨hi.n, hi.room, hi.cap, hi.at_, hi.al.put hp, put_len (known_has t p ▸ hroom) hi.le, hi.pv⟩
  · have hv := vid_t (not_f (by assumption : (!vidB p.vid) = false))
    have hr : ¬ (a < 0 ∨ (t.n : Int) ≤ a) := by omega
    have hg : ¬ grp p := of_decide_eq_false (by assumption : decide (bits .and .u8 p.m0 1 = 1) = false)
    have hs := (by assumption : isSt t p = false)
    have hk := not_f (by assumption : (!known t p) = false)
    have hroom : ¬ (known t p = false ∧ t.room ≤ (t.al.length : Int)) := fun hh => by rw [hk] at hh; cases hh.1
    obtain ⟨e1, e2⟩ := lr_yes (now := now) (lr_go hv hr hg hs hroom)
    rw [e1, e2]
    (conv => whnf); refine o_one ⟨_, _, _, _, _, _, _, _, _, _, _, _⟩ (by (repeat' (first | ((conv => whnf); first | refine ⟨?_, ?_⟩ | exact trivial | fail) | (dsimp only; done) | ((try dsimp only); first | with_reducible exact rfl | exact Nat.le_refl _ | with_reducible exact (fun _ _ => rfl)))); all_goals ((first | rfl))) ?_; exact ⟨hi.n, hi.room, hi.cap, hi.at_, hi.al.put hp, put_len (known_has t p ▸ hroom) hi.le, hi.pv⟩
end
noncomputable def lrS : ESpec Try.prog := obN fn13 82 ftK (.s3 Lens.pl (.int .i64) (.int .i64)) ftR ftP ftR_ok (fun _ => rfl) (fun _ _ _ => cxLr) (fun _ y => PlW y.1) (fun t y => [.one (int_ .i64 (lrE t y.1 y.2.1)) (ftP (lrT t y.1 y.2.1 y.2.2))]) (fun _ _ => []) (fun _ m => ftRen m) (fun _ _ _ => rfl) (fun t y hp h hi => lr_runs t y hp h hi)

end Go.Proofs.Ytnkmfkongmijfaa
