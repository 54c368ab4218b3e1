/-
  Contracts of functions, and plain facts about them, that a claim of this seat uses.
-/
import Derived.Test.YtdphgjnflaahbaaSx
import Derived.Test.YtdphgjnflaahbaaMWideNum
import Derived.Test.YtdphgjnflaahbaaMRefA
import Derived.Test.YtdphgjnflaahbaaProg
namespace Go.Proofs.Ytdphgjnflaahbaa
open Go.Sx
set_option linter.unusedVariables false
set_option linter.unusedSimpArgs false
set_option maxRecDepth 100000

def U64 (n : Int) : Prop := 0 ≤ n ∧ n < 18446744073709551616
theorem pv_join {g g' h : Nat → Int} {i : Nat} (h1 : ∀ r, r < i → h r = g r) : ∀ {k : Nat}, (∀ r, r < k → h (i + r) = g' r) → pv h (i + k) = pv g i + B i * pv g' k
  | 0, _ => by simp only [Nat.add_zero, pv, Int.mul_zero, Int.add_zero]; exact pv_congr h1
  | k + 1, h2 => by
    rw [← Nat.add_assoc]
    simp only [pv]
    rw [pv_join h1 fun r hr => h2 r (by omega), h2 k (by omega), Int.mul_add, show B (i + k) = B i * B k from Int.pow_add .., Int.mul_left_comm]
    omega
theorem pv_joinF {g g' : Nat → Int} {i k : Nat} {t : Tail} : pv (fun r => if r < i then g r else if r < i + k then g' (r - i) else t.i 0 r) (i + k) = pv g i + B i * pv g' k :=
  pv_join (fun r hr => if_pos hr) fun r hr => by
    show (if i + r < i then g (i + r) else if i + r < i + k then g' (i + r - i) else t.i 0 (i + r)) = g' r
    rw [if_neg (by omega), if_pos (by omega), Nat.add_sub_cancel_left]
theorem dig_joinF {g g' : Nat → Int} {i k : Nat} {t : Tail} (h1 : Dig g i) (h2 : Dig g' k) : Dig (fun r => if r < i then g r else if r < i + k then g' (r - i) else t.i 0 r) (i + k) := fun r hr => by
  by_cases h : r < i
  · simp only [if_pos h]; exact h1 r h
  · simp only [if_neg h, if_pos hr]; exact h2 _ (by omega)
def val2 (x : Int × Int) : Int := x.1 * 18446744073709551616 + x.2

end Go.Proofs.Ytdphgjnflaahbaa
