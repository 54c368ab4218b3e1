/-
  Contracts of functions, and plain facts about them, that a claim of this seat uses.
-/
import Derived.Test.YtiaadplhpkggeaaSx
import Derived.Test.YtiaadplhpkggeaaFcsNum
import Derived.Test.YtiaadplhpkggeaaFcsBits
import Derived.Test.YtiaadplhpkggeaaFcsA
import Derived.Test.YtiaadplhpkggeaaFcsB
import Derived.Test.YtiaadplhpkggeaaFcsC
import Derived.Test.YtiaadplhpkggeaaFcsIn
import Derived.Test.YtiaadplhpkggeaaProg
namespace Go.Proofs.Ytiaadplhpkggeaa
open Go.Sx
set_option linter.unusedVariables false
set_option linter.unusedSimpArgs false
set_option maxRecDepth 100000

/-! facts for the laws. -/
theorem opD_yes {a : IS} (h : (!opD a) = false) : opB a.g a.len := by
  unfold opD at h
  by_cases ho : opB a.g a.len
  · exact ho
  · rw [decide_eq_false ho] at h; cases h
theorem opD_no {a : IS} (h : (!opD a) = true) : ¬ opB a.g a.len := fun ho => by
  unfold opD at h
  rw [decide_eq_true ho] at h; cases h
theorem opD_is {a : IS} (h : opD a = true) : opB a.g a.len := opD_yes (by rw [h]; rfl)
theorem opD_not {a : IS} (h : opD a = false) : ¬ opB a.g a.len := opD_no (by rw [h]; rfl)
theorem not_same {a b : IS} {c : Bool} (h : sameB a b = true) (h2 : (!sameB a b) = true) : False := by rw [h] at h2; cases h2

end Go.Proofs.Ytiaadplhpkggeaa
