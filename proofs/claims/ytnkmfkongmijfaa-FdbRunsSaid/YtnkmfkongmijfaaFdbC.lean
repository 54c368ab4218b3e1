/-
  Contracts of functions, and plain facts about them, that a claim of this seat uses.
-/
import Derived.Test.YtnkmfkongmijfaaSx
import Derived.Test.YtnkmfkongmijfaaFdbB
import Derived.Test.YtnkmfkongmijfaaProg
namespace Go.Proofs.Ytnkmfkongmijfaa
open Go.Sx
set_option linter.unusedVariables false
set_option linter.unusedSimpArgs false
set_option maxRecDepth 100000

/-! fdb: Out, Len, Learn. -/
def bitI (a : Int) : Int := IntKind.i64.wrap (1 * 2 ^ min a.toNat IntKind.i64.bits)
def PlW (p : Pl) : Prop := KeyW AT.ks (plK p)
theorem PlW.vid {p : Pl} (h : PlW p) : -9223372036854775808 ≤ p.vid ∧ p.vid ≤ 9223372036854775807 := h.1
theorem PlW.m {p : Pl} (h : PlW p) : (0 ≤ p.m0 ∧ p.m0 ≤ 255) ∧ (0 ≤ p.m1 ∧ p.m1 ≤ 255) ∧ (0 ≤ p.m2 ∧ p.m2 ≤ 255) ∧ (0 ≤ p.m3 ∧ p.m3 ≤ 255) ∧ (0 ≤ p.m4 ∧ p.m4 ≤ 255) ∧ (0 ≤ p.m5 ∧ p.m5 ≤ 255) := by
  obtain ⟨_, h1, h2, h3, h4, h5, h6, _⟩ := h
  exact ⟨h1, h2, h3, h4, h5, h6⟩
/-- the ports of a VLAN, those without a tag -/
def vPo (t : Ft) (x : Int) : Int := cellI (mpGet t.vl [x]) 0
def vBa (t : Ft) (x : Int) : Int := cellI (mpGet t.vl [x]) 1
def aGet (t : Ft) (p : Pl) : Option (List Int) := mpGet t.al (plK p)
def otP (t : Ft) (a : Int) (p : Pl) : Int := if a < 0 ∨ (t.n : Int) ≤ a then 0 else bits .andNot .i64 (match aGet t p with | some g => bits .and .i64 (vPo t p.vid) (g.getD 0 0) | none => vPo t p.vid) (bitI a)
def otB (t : Ft) (a : Int) (p : Pl) : Int := if a < 0 ∨ (t.n : Int) ≤ a then 0 else bits .and .i64 (otP t a p) (vBa t p.vid)
def otV (t : Ft) (a : Int) (p : Pl) : SV := .tup [.a (i_ (otP t a p)), .a (i_ (otB t a p))]
theorem ot_no {t : Ft} {a : Int} {p : Pl} (h : a < 0 ∨ (t.n : Int) ≤ a) : otV t a p = .tup [.a (i_ 0), .a (i_ 0)] := by
  unfold otV otB otP; rw [if_pos h, if_pos h]
theorem ot_some {t : Ft} {a : Int} {p : Pl} (h : ¬ (a < 0 ∨ (t.n : Int) ≤ a)) (hg : (mpGet t.al (plK p)).isSome = true) : otV t a p = .tup [.a (i_ (bits .andNot .i64 (bits .and .i64 (vPo t p.vid) (cellI (mpGet t.al (plK p)) 0)) (bitI a))), .a (i_ (bits .and .i64 (bits .andNot .i64 (bits .and .i64 (vPo t p.vid) (cellI (mpGet t.al (plK p)) 0)) (bitI a)) (vBa t p.vid)))] := by
  cases hm : mpGet t.al (plK p) with
  | none => rw [hm] at hg; cases hg
  | some g => simp only [otV, otP, otB, aGet, hm, if_neg h, cellI]
theorem ot_none {t : Ft} {a : Int} {p : Pl} (h : ¬ (a < 0 ∨ (t.n : Int) ≤ a)) (hg : (mpGet t.al (plK p)).isSome = false) : otV t a p = .tup [.a (i_ (bits .andNot .i64 (vPo t p.vid) (bitI a))), .a (i_ (bits .and .i64 (bits .andNot .i64 (vPo t p.vid) (bitI a)) (vBa t p.vid)))] := by
  cases hm : mpGet t.al (plK p) with
  | some g => rw [hm] at hg; cases hg
  | none => simp only [otV, otP, otB, aGet, hm, if_neg h]
noncomputable def cxOt : Cx Try.prog := { ps := [vidS, grpS], es := [], is := [], n0 := 1, loops := fun _ => none, cuts := fun _ => none, xr := xrs, xa := xas, held := fun i => match i with
  | 3 => some (true, .take 0 (.take 1 (.take 2 (.take 3 (.take 4 (.take 5 (.two 6 (.one 7 (.one 8 .done)) 7 (.one 6 (.one 8 .done)))))))))
  | 5 => some (true, .take 0 (.take 1 (.take 2 (.take 3 (.take 4 (.two 5 (.take 6 (.take 7 (.take 8 (.one 9 (.one 10 (.take 11 .done)))))) 9 (.one 5 (.take 6 (.take 7 (.take 8 (.one 10 (.take 11 .done))))))))))))
  | _ => none }
section
attribute [local irreducible] anyO
set_option maxHeartbeats 8000000 in
theorem ot_runs (t : Ft) (y : Int × Pl) (hp : PlW y.2) (h : FH) (hi : FtInv t h) : Runs cxOt Try.f12 (.one (.a (.ptr 0 0)) :: [int_ .i64 y.1, .one (plC y.2)]) (ftMem t h) fun v m => ghosted (fun _ _ => []) v m fun v m => anyO ftK (ftRen m) v m [.one (otV t y.1 y.2) (ftP t)] := by
  obtain ⟨a, p⟩ := y
  obtain ⟨p1, p2⟩ := hp.vid
  obtain ⟨⟨q1, r1⟩, ⟨q2, r2⟩, ⟨q3, r3⟩, ⟨q4, r4⟩, ⟨q5, r5⟩, ⟨q6, r6⟩⟩ := hp.m
  repeat' (first | with_reducible exact trivial | with_reducible exact rfl | with_reducible exact Nat.le_refl _ | with_reducible exact (fun _ _ => rfl) | ((conv => whnf); first | (exact fun h => absurd h (by decide)) | (intro h9; (have h8 := of_decide_eq_true (p := type_of% h9) (by decide)); clear h8 h9) | (refine fun _ => ?_) | refine ⟨?_, ?_⟩ | exact trivial | exact Nat.le_refl _ | exact lex_q (by kernel_rfl) | exact lex_t (by kernel_rfl) | exact lex_h (by kernel_rfl) | fail))
  all_goals (try dsimp only at *)
  all_goals (try assumption)
  all_goals (try omega)
  · rw [ot_no (.inl (by assumption))]
    (conv => whnf); refine o_one ⟨_, _, _, _, _, _, _, _, _, _, _, _⟩ (by (repeat' (first | ((conv => whnf); first | refine ⟨?_, ?_⟩ | exact trivial | fail) | (dsimp only; done) | ((try dsimp only); first | with_reducible exact rfl | exact Nat.le_refl _ | with_reducible exact (fun _ _ => rfl)))); all_goals ((first | rfl))) ?_; exact hi
  · rw [ot_no (.inr (by assumption))]
    (conv => whnf); refine o_one ⟨_, _, _, _, _, _, _, _, _, _, _, _⟩ (by (repeat' (first | ((conv => whnf); first | refine ⟨?_, ?_⟩ | exact trivial | fail) | (dsimp only; done) | ((try dsimp only); first | with_reducible exact rfl | exact Nat.le_refl _ | with_reducible exact (fun _ _ => rfl)))); all_goals ((first | rfl))) ?_; exact hi
  all_goals
    have hno : ¬ (a < 0 ∨ (t.n : Int) ≤ a) := by omega
    first
    | (have hs := (by assumption : (mpGet t.al (plK p)).isSome = true)
       rw [ot_some hno hs]
       (conv => whnf); refine o_one ⟨_, _, _, _, _, _, _, _, _, _, _, _⟩ (by (repeat' (first | ((conv => whnf); first | refine ⟨?_, ?_⟩ | exact trivial | fail) | (dsimp only; done) | ((try dsimp only); first | with_reducible exact rfl | exact Nat.le_refl _ | with_reducible exact (fun _ _ => rfl)))); all_goals ((first | rfl))) ?_; exact hi)
    | (have hs := (by assumption : (mpGet t.al (plK p)).isSome = false)
       rw [ot_none hno hs]
       (conv => whnf); refine o_one ⟨_, _, _, _, _, _, _, _, _, _, _, _⟩ (by (repeat' (first | ((conv => whnf); first | refine ⟨?_, ?_⟩ | exact trivial | fail) | (dsimp only; done) | ((try dsimp only); first | with_reducible exact rfl | exact Nat.le_refl _ | with_reducible exact (fun _ _ => rfl)))); all_goals ((first | rfl))) ?_; exact hi)
    | fail
end
noncomputable def otS : PSpec Try.prog := obP fn12 82 ftK (.s2 (.int .i64) Lens.pl) ftR ftP ftR_ok (fun _ => rfl) (fun _ _ _ => cxOt) (fun _ y => PlW y.2) (fun t y => otV t y.1 y.2) (fun _ _ => []) (fun _ m => ftRen m) (fun _ _ _ => rfl) (fun t y hp h hi => ot_runs t y hp h hi)
/-! Len -/
def Sig.s0 : Sig Unit where
  sh := []
  pat := fun a => match a with | [] => some () | _ => none
  arg := fun _ => []
  ok := fun a x h => by
    split at h
    · rfl
    · cases h
section
attribute [local irreducible] anyO
theorem ln_runs (t : Ft) (h : FH) (hi : FtInv t h) : Runs cxM Try.f15 (.one (.a (.ptr 0 0)) :: []) (ftMem t h) fun v m => ghosted (fun _ _ => []) v m fun v m => anyO ftK (ftRen m) v m [.one (int_ .i64 t.al.length) (ftP t)] := by
  repeat' (first | with_reducible exact trivial | with_reducible exact rfl | with_reducible exact Nat.le_refl _ | with_reducible exact (fun _ _ => rfl) | ((conv => whnf); first | (exact fun h => absurd h (by decide)) | (intro h9; (have h8 := of_decide_eq_true (p := type_of% h9) (by decide)); clear h8 h9) | (refine fun _ => ?_) | refine ⟨?_, ?_⟩ | exact trivial | exact Nat.le_refl _ | exact lex_q (by kernel_rfl) | exact lex_t (by kernel_rfl) | exact lex_h (by kernel_rfl) | fail))
  all_goals ((conv => whnf); refine o_one ⟨_, _, _, _, _, _, _, _, _, _, _, _⟩ (by (repeat' (first | ((conv => whnf); first | refine ⟨?_, ?_⟩ | exact trivial | fail) | (dsimp only; done) | ((try dsimp only); first | with_reducible exact rfl | exact Nat.le_refl _ | with_reducible exact (fun _ _ => rfl)))); all_goals ((first | rfl))) ?_; exact hi)
end
noncomputable def lnS : PSpec Try.prog := obP fn15 82 ftK Sig.s0 ftR ftP ftR_ok (fun _ => rfl) (fun _ _ _ => cxM) (fun _ _ => True) (fun t _ => int_ .i64 t.al.length) (fun _ _ => []) (fun _ m => ftRen m) (fun _ _ _ => rfl) (fun t _ _ h hi => ln_runs t h hi)

end Go.Proofs.Ytnkmfkongmijfaa
