/-
  Contracts of functions, and plain facts about them, that a claim of this seat uses.
-/
import Derived.Test.YtmhggafgdilgeaaSx
import Derived.Test.YtmhggafgdilgeaaSieC
import Derived.Test.YtmhggafgdilgeaaProg
namespace Go.Proofs.Ytmhggafgdilgeaa
open Go.Sx
set_option linter.unusedVariables false
set_option linter.unusedSimpArgs false
set_option maxRecDepth 100000

/-! sieve: what stays; the laws' head. -/
theorem fn7 : FnOf Try.prog 7 Try.f7 := ⟨Try.func7, rfl, rfl, mixed⟩
theorem inT_s (t : Sv) (y : InA) : (inT t y).n = t.n ∧ (inT t y).cap = t.cap ∧ (inT t y).c = t.c := by
  unfold inT
  split
  · exact ⟨rfl, rfl, rfl⟩
  · obtain ⟨h1, h2, h3, _⟩ := psT_n t (fI t y) y.size
    exact ⟨h1, h2, h3⟩
theorem opT_s (t : Sv) (i : Int) : (opT t i).n = t.n ∧ (opT t i).cap = t.cap ∧ (opT t i).c = t.c ∧ (opT t i).ct = t.ct := by
  unfold opT
  split <;> exact ⟨rfl, rfl, rfl, rfl⟩
theorem fnd_c {t u : Sv} (hn : t.n = u.n) (hc : t.c = u.c) (p v : Int) (d s : Mc) : fnd t p v d s = fnd u p v d s := by
  unfold fnd; rw [hn, hc]
theorem fI_s (t : Sv) (y z : InA) : fI (inT t y) z = fI t z := fnd_c (inT_s t y).1 (inT_s t y).2.2 _ _ _ _
theorem inT_bl {t : Sv} {y : InA} (h : ¬ fI t y < 0) : (inT t y).bl = (psT t (fI t y) y.size).bl := by
  unfold inT; rw [if_neg h]
theorem inW_ps {t : Sv} {y : InA} (h : ¬ fI t y < 0) : inW t y = psW t (fI t y) y.size := if_neg h
theorem psW_c {t u : Sv} {i z : Int} (hb : t.bl i.toNat = u.bl i.toNat) (hc : t.c = u.c) : psW t i z = psW u i z := by
  unfold psW; rw [hb, hc]
def m00 : Mc := ⟨0, 0, 0, 0, 0, 0⟩
def hY (n : Int) : InA := ⟨0, 0, 1, m00, m00, 3, n⟩
def hC : Sc := ⟨fun r => [-1].getD (r + 0) 0, fun r => [1].getD (r + 0) 0, fun r => [0].getD (r + 0) 0, fun r => [0].getD (r + 0) 0, fun r => [0].getD (r + 0) 0, fun r => [0].getD (r + 0) 0, fun r => [0].getD (r + 0) 0, fun r => [0].getD (r + 0) 0, fun r => [false].getD (r + 0) false, fun r => [-1].getD (r + 0) 0, fun r => [-1].getD (r + 0) 0, fun r => [100].getD (r + 0) 0, fun r => [true].getD (r + 0) false, fun r => [-1].getD (r + 0) 0⟩
def hS : SI := ⟨1, 1, 1 - 0, hC⟩
theorem h_ok : newOK hS := ⟨by decide, fun r hr => by
  obtain rfl : r = 0 := by have hr : r < 1 := hr; omega
  exact ⟨by decide, by decide, rfl, by decide, by decide, rfl⟩⟩
theorem h_all {c : Sc} {cap : Nat} (h : ∀ r, r < 1 → same c hC r) : inW (sv0 1 cap c) (hY 100) = 0 ∧ inW (inT (sv0 1 cap c) (hY 100)) (hY 101) = 2 ∧ inW (inT (inT (sv0 1 cap c) (hY 100)) (hY 101)) (hY 100) = 5 ∧ opE (inT (inT (inT (sv0 1 cap c) (hY 100)) (hY 101)) (hY 100)) 0 = 0 := by
  obtain ⟨e0, e1, e2, e3, e4, e5, e6, e7, e8, e9, e10, e11, e12, e13⟩ := same_out (h 0 Nat.one_pos)
  have hf : ∀ n, fI (sv0 1 cap c) (hY n) = 0 := fun n => fnd_at (t := sv0 1 cap c) (i := 0) (fun j hj => absurd hj (Nat.not_lt_zero j)) Nat.one_pos (by
    show (c.po 0 < 0 ∨ c.po 0 = 0) ∧ c.vid 0 = 1 ∧ eqM (mcAt c 0) (if c.src 0 = true then m00 else m00)
    rw [e0, e1]
    refine ⟨.inl (by decide), rfl, ?_⟩
    have : (if c.src 0 = true then m00 else m00) = m00 := by split <;> rfl
    rw [this]
    exact ⟨e2, e3, e4, e5, e6, e7⟩)
  have hm : c.mx 0 = 100 := e11
  have hs : c.sh 0 = true := e12
  have n0 : ∀ {t : Sv} {n : Int}, fI t (hY n) = 0 → ¬ fI t (hY n) < 0 := fun {t n} h => by omega
  have p0 : psW (sv0 1 cap c) 0 100 = 0 ∧ psT (sv0 1 cap c) 0 100 = sv0 1 cap c := ps_0 rfl (by show ¬ (0 < c.mx 0 ∧ c.mx 0 < 100); rw [hm]; decide)
  have f1 : fI (inT (sv0 1 cap c) (hY 100)) (hY 101) = 0 := (fI_s _ _ _).trans (hf 101)
  have f2 : fI (inT (inT (sv0 1 cap c) (hY 100)) (hY 101)) (hY 100) = 0 := ((fI_s _ _ _).trans (fI_s _ _ _)).trans (hf 100)
  have c1 := (inT_s (sv0 1 cap c) (hY 100)).2.2
  have b1 : (inT (sv0 1 cap c) (hY 100)).bl 0 = false := by
    rw [inT_bl (n0 (hf 100)), hf 100]
    show (psT (sv0 1 cap c) 0 100).bl 0 = false
    rw [p0.2]; rfl
  have p1 := ps_2 (t := inT (sv0 1 cap c) (hY 100)) (i := 0) (z := 101) b1 (by
    rw [c1]
    show 0 < c.mx 0 ∧ c.mx 0 < 101
    rw [hm]; decide)
  have b2 : (inT (inT (sv0 1 cap c) (hY 100)) (hY 101)).bl 0 = true := by
    rw [inT_bl (n0 f1), f1]
    show (psT (inT (sv0 1 cap c) (hY 100)) 0 101).bl 0 = true
    rw [p1.2]
    show upB (inT (sv0 1 cap c) (hY 100)).bl 0 ((inT (sv0 1 cap c) (hY 100)).c.sh 0) 0 = true
    rw [c1]
    unfold upB
    rw [if_pos rfl]; exact hs
  refine ⟨?_, ?_, ?_, ?_⟩
  · rw [inW_ps (n0 (hf 100)), hf 100]; exact p0.1
  · rw [inW_ps (n0 f1), f1]; exact p1.1
  · rw [inW_ps (n0 f2), f2]; exact (ps_5 (z := 100) b2).1
  · refine if_neg ?_
    unfold opBad
    rw [(inT_s _ _).1, (inT_s _ _).1, (inT_s _ _).1]
    show ¬ ((0 : Int) < 0 ∨ ((1 : Nat) : Int) ≤ 0)
    decide
theorem sw_out {y : SI} (h : Sw y) : y.len ≤ y.cap ∧ y.len ≤ y.N ∧ y.cap ≤ 9223372036854775807 := h
theorem sw_mk {y : SI} (h : y.len ≤ y.cap ∧ y.len ≤ y.N ∧ y.cap ≤ 9223372036854775807) : Sw y := h
noncomputable def cxHd : Cx Try.prog := { ps := [fdS, ctS], es := [newS, inS, opS], is := [], n0 := 0, loops := fun i => match i with | 6 => some (.rounds 4) | _ => none, cuts := fun _ => none }
def Sig.s0 : Sig Unit where
  sh := []
  pat := fun a => match a with | [] => some () | _ => none
  arg := fun _ => []
  ok := fun a x h => by
    split at h
    · rfl
    · cases h
section
attribute [local irreducible] newOK same inT inW inQ fI opE opT Sw
set_option maxHeartbeats 8000000 in
theorem head_runs (_ : Unit) (_ : obp none) : Runs cxHd Try.f7 [] [] fun v _ => isRes (.one (.a (.v (.bool true)))) v := by
  have hok := h_ok
  repeat' (first | with_reducible exact trivial | with_reducible exact rfl | with_reducible exact Nat.le_refl _ | with_reducible exact (fun _ _ => rfl) | ((conv => whnf); first | (refine fun (x : Sc × Nat) => ?_) | (exact fun h => absurd h (by decide)) | (intro h9; (have h8 := of_decide_eq_true (p := type_of% h9) (by decide)); clear h8 h9) | (refine fun _ => ?_) | refine ⟨?_, ?_⟩ | exact trivial | exact Nat.le_refl _ | exact lex_q (by kernel_rfl) | exact lex_t (by kernel_rfl) | exact lex_h (by kernel_rfl) | fail))
  all_goals (try exact absurd hok (by assumption))
  · exact sw_mk ⟨Nat.le_refl _, Nat.le_refl _, by decide⟩
  all_goals (try (have hx := (by assumption : (fun (x : Sc × Nat) => newOK hS ∧ (∀ r, r < 1 → same x.1 hC r) ∧ 1 ≤ x.2 ∧ x.2 ≤ 9223372036854775807) x); obtain ⟨a1, a2, a3, a4⟩ := h_all (cap := x.2) hx.2.1))
  all_goals (try first | omega | exact absurd a1 (by assumption) | exact absurd a2 (by assumption) | exact absurd a3 (by assumption) | exact (decide_eq_true a4).symm | exact absurd a4 (by assumption) | fail)
  all_goals (try decide)
end
noncomputable def hdS : PSpec Try.prog := readN fn7 Sig.s0 (fun _ => cxHd) (fun _ => none) (fun _ => .one (.a (.v (.bool true)))) (fun _ => rfl) (fun _ => rfl) (fun _ => rfl) head_runs

end Go.Proofs.Ytmhggafgdilgeaa
