/-
  Contracts of functions, and plain facts about them, that a claim of this seat uses.
-/
import Derived.Test.YtlhlegjndembdaaSx
import Derived.Test.YtlhlegjndembdaaMgA
import Derived.Test.YtlhlegjndembdaaProg
namespace Go.Proofs.Ytlhlegjndembdaa
open Go.Sx
set_option linter.unusedVariables false
set_option linter.unusedSimpArgs false
set_option maxRecDepth 100000

/-! merge: what In leaves stands. -/
theorem in_len (s : Sq) (n q : Int) : (s.in_ n q).2.2.len = s.len ∧ (s.in_ n q).2.2.way = s.way ∧ (s.in_ n q).2.2.reset = s.reset := by
  unfold Sq.in_
  split
  · exact ⟨rfl, rfl, rfl⟩
  · have m : (s.mid n q).2.len = s.len ∧ (s.mid n q).2.way = s.way ∧ (s.mid n q).2.reset = s.reset := by
      have t1 := turn_len s n
      have m1 := match_len (s.turn n) q
      have v1 := vector_len ((s.turn n).match_ q).2 q
      unfold Sq.mid
      split
      · exact ⟨by rw [v1.1, m1.1, t1.1], by rw [v1.2.1, m1.2.1, t1.2.1], by rw [v1.2.2.1, m1.2.2.1, t1.2.2]⟩
      · exact ⟨by rw [m1.1, t1.1], by rw [m1.2.1, t1.2.1], by rw [m1.2.2.1, t1.2.2]⟩
    have f : ∀ (u : Sq) (w : Int), ((u.bump w).fin w n).len = u.len ∧ ((u.bump w).fin w n).way = u.way ∧ ((u.bump w).fin w n).reset = u.reset := fun u w => by
      unfold Sq.fin Sq.bump
      split <;> exact ⟨rfl, rfl, rfl⟩
    dsimp only
    rw [(f _ _).1, (f _ _).2.1, (f _ _).2.2]
    exact m
theorem mg_i1 {t : Mg} {n y q : Int} {h : Nat} (hi : MgInv t h) : MgInv (mgT1 t n y q) h := by
  refine ⟨hi.w, hi.cap, fun k hk => ?_, hi.all⟩
  have h0 := hi.one k hk
  show 1 ≤ (upd t.ones y.toNat (mgOne t n y q).2.2 k).len ∧ (upd t.ones y.toNat (mgOne t n y q).2.2 k).len ≤ 9223372036854775807
  unfold upd
  split
  · rename_i hh
    subst hh
    unfold mgOne
    rw [(in_len _ _ _).1]
    exact h0
  · exact h0
theorem mg_i2 {t : Mg} {n y q : Int} {h : Nat} (hi : MgInv t h) : MgInv (mgT2 t n y q) h := by
  have h1 := mg_i1 (n := n) (y := y) (q := q) hi
  refine ⟨h1.w, h1.cap, h1.one, ?_⟩
  show 1 ≤ (mgAll t n q).2.2.len ∧ (mgAll t n q).2.2.len ≤ 9223372036854775807
  unfold mgAll
  rw [(in_len _ _ _).1]
  exact hi.all
theorem mg_i3 {t : Mg} {n y q z : Int} {h : Nat} (hi : MgInv t h) : MgInv { mgT2 t n y q with passed := z } h := by
  have h1 := mg_i2 (n := n) (y := y) (q := q) hi
  exact ⟨h1.w, h1.cap, h1.one, h1.all⟩
theorem mg_i4 {t : Mg} {n y q z : Int} {h : Nat} (hi : MgInv t h) : MgInv { mgT2 t n y q with again := z } h := by
  have h1 := mg_i2 (n := n) (y := y) (q := q) hi
  exact ⟨h1.w, h1.cap, h1.one, h1.all⟩
noncomputable def cxMi : Cx Try.prog := { ps := [], es := [inS], is := [], n0 := 1, loops := fun _ => none, cuts := fun _ => none, xr := [ixF] }

end Go.Proofs.Ytlhlegjndembdaa
