/-
  Contracts of functions, and plain facts about them, that a claim of this seat uses.
-/
import Derived.Test.YtiaadplhpkggeaaSx
import Derived.Test.YtiaadplhpkggeaaFcsNum
import Derived.Test.YtiaadplhpkggeaaFcsBits
import Derived.Test.YtiaadplhpkggeaaFcsA
import Derived.Test.YtiaadplhpkggeaaFcsB
import Derived.Test.YtiaadplhpkggeaaProg
namespace Go.Proofs.Ytiaadplhpkggeaa
open Go.Sx
set_option linter.unusedVariables false
set_option linter.unusedSimpArgs false
set_option maxRecDepth 100000

/-! arguments that come in. -/
/-- what comes in -/
theorem bw_of {w : World} {v : Value} {A : Option Addr} {n cap : Nat} (s : Slc w v [some .u8] A n cap) : Bw ⟨n, cap, n, fun r => intC w A (r * 1 + 0)⟩ := by
  refine ⟨fun r hr => ?_, s.le, Nat.le_refl _, s.max⟩
  have h := s.wf 0 .u8 rfl r hr
  have h2 := (Lit.wf_int_iff _ _).1 h
  have h3 : IntKind.u8.min = 0 := rfl
  have h4 : IntKind.u8.max = 255 := rfl
  show 0 ≤ intC w A (r * 1 + 0) ∧ intC w A (r * 1 + 0) < 256
  have h5 : intC w A (r * [some IntKind.u8].length + 0) = intC w A (r * 1 + 0) := rfl
  rw [h5] at h2
  omega
theorem rel_one {w : World} {A : Option Addr} {n : Nat} {cols : List Col} (h : ∀ e, RegOK e w A ⟨false, .tab n cols⟩) : Rel (fun _ => A) w (fun _ => False) [some ⟨false, .tab n cols⟩] w := rel_ro fun i r hr => by
  cases i with
  | zero => cases hr; exact ⟨rfl, h _⟩
  | succ i => simp at hr
theorem den_slc {e : Env} {i st n c : Nat} {A : Option Addr} (h : e i = A) : SA.den e (.slc i st 0 n c) = .slice A n c := by
  subst h
  cases he : e i <;> simp [SA.den, at_, he, Addr.add_zero']
theorem close_op {f : Nat → Int} {k : Nat} {y : CG} (hf : Bytes f k) (h : CB (k + 4) (clG f k) y) : opB (fun q => y.g (q + 0)) (k + 4) := by
  refine ⟨by omega, ?_⟩
  rw [show k + 4 - 4 = k by omega, ← (show crcI f k = crcI (fun q => y.g (q + 0)) k from crcI_congr fun r hr => by rw [Nat.add_zero, h.2.2 r (by omega), clG_old hr]), ← clG_le hf]
  unfold le32
  simp only [Nat.add_zero]
  rw [h.2.2 k (by omega), h.2.2 (k + 1) (by omega), h.2.2 (k + 2) (by omega), h.2.2 (k + 3) (by omega)]
theorem close_rest {f : Nat → Int} {k : Nat} {y : CG} (hf : Bytes f k) (h : CB (k + 4) (clG f k) y) : crcI (fun q => y.g (q + 0)) (k + 4) = 558161692 := by
  rw [← clG_rest hf]
  exact crcI_congr fun r hr => h.2.2 r hr
theorem bw_zero {N : Nat} {z : Nat → Int} : Bw ⟨0, 0, N, z⟩ := ⟨fun r hr => absurd hr (Nat.not_lt_zero r), Nat.le_refl _, Nat.zero_le _, by show (0 : Nat) ≤ _; exact Nat.zero_le _⟩
theorem opened {f : Nat → Int} {n k : Nat} {x : CG} (hf : Bytes f n) (h : CB (n - 4) f x) (hk : n - 4 = k) : Bw ⟨n - 4, x.cap, x.cap - 0, fun q => x.g (q + 0)⟩ := h.bw fun r hr => hf r (by omega)
theorem opB_congr {g h : Nat → Int} {n : Nat} (e : ∀ r, r < n → g r = h r) : opB g n ↔ opB h n := by
  unfold opB
  by_cases hn : 4 ≤ n
  · have e1 : crcI g (n - 4) = crcI h (n - 4) := crcI_congr fun r hr => e r (by omega)
    have e2 : le32 g (n - 4) = le32 h (n - 4) := by unfold le32; rw [e _ (by omega), e _ (by omega), e _ (by omega), e _ (by omega)]
    rw [e1, e2]
  · constructor <;> intro h9 <;> exact absurd h9.1 hn

end Go.Proofs.Ytiaadplhpkggeaa
