/-
  Contracts of functions, and plain facts about them, that a claim of this seat uses.
-/
import Derived.Test.YtdphgjnflaahbaaSx
import Derived.Test.YtdphgjnflaahbaaMWideNum
import Derived.Test.YtdphgjnflaahbaaMRefA
import Derived.Test.YtdphgjnflaahbaaMRefB
import Derived.Test.YtdphgjnflaahbaaMWideU
import Derived.Test.YtdphgjnflaahbaaMLen
import Derived.Test.YtdphgjnflaahbaaMDiv64
import Derived.Test.YtdphgjnflaahbaaMDivU
import Derived.Test.YtdphgjnflaahbaaMMulDiv
import Derived.Test.YtdphgjnflaahbaaMHeld
import Derived.Test.YtdphgjnflaahbaaMetA
import Derived.Test.YtdphgjnflaahbaaMetB
import Derived.Test.YtdphgjnflaahbaaMetC
import Derived.Test.YtdphgjnflaahbaaProg
namespace Go.Proofs.Ytdphgjnflaahbaa
open Go.Sx
set_option linter.unusedVariables false
set_option linter.unusedSimpArgs false
set_option maxRecDepth 100000

/-! pails: what the laws' walks share. -/
structure ST where
  len : Nat
  cap : Nat
  N : Nat
  f : Nat → Int
  g : Nat → Int
  h : Nat → Bool
def roT (a : ST) : Option Reg := some ⟨false, .tab a.N [.int .i64 a.f, .int .i64 a.g, .bool a.h]⟩
def Tw (a : ST) : Prop := a.len ≤ a.cap ∧ a.len ≤ a.N ∧ a.cap ≤ 9223372036854775807
theorem den_on {a b c d : Int} {e f g : Bool} {A : Option Addr} {n cap : Nat} : #[SV.den (envOf [A]) (.one (.agg (Cf.cells ⟨a, b, c, d, e, f, g⟩))), SV.den (envOf [A]) (.one (.a (.slc 0 3 0 n cap)))] = #[.agg #[.int .i64 a, .int .i64 b, .int .i64 c, .int .i64 d, .bool e, .bool f, .bool g], .slice A n cap] := by
  show #[Value.agg _, SA.den (envOf [A]) (.slc 0 3 0 n cap)] = _
  rw [den_slc (A := A) rfl]; rfl
theorem and_10 (a : Int) : bits .and .i64 a 1023 = a % 1024 := and_mask a 10 (by decide)
theorem and_24 (a : Int) : bits .and .i64 a 16777215 = a % 16777216 := and_mask a 24 (by decide)
theorem and_20 (a : Int) : bits .and .i64 a 1048575 = a % 1048576 := and_mask a 20 (by decide)
theorem and_8 (a : Int) : bits .and .i64 a 255 = a % 256 := and_mask a 8 (by decide)
theorem and_16 (a : Int) : bits .and .i64 a 65535 = a % 65536 := and_mask a 16 (by decide)
theorem and_3 (a : Int) : bits .and .i64 a 7 = a % 8 := and_mask a 3 (by decide)
/-- shut: it was, or it is red now -/
theorem in_shut {m : Mt} (h : MOk m) {now size : Int} {y : Bool} (h1 : m.last ≤ now) (h2 : now ≤ 1099511627776) (hs : 0 ≤ size ∧ size ≤ 1600) (hsh : m.shut = true) :
    (m.in_ now size y).2.2 = 0 ∧ (m.off = true → (m.in_ now size y).2.1 = 2) ∧ (m.in_ now size y).1.off = (m.off || decide ((m.in_ now size y).2.1 = 2)) ∧ MOk (m.in_ now size y).1 ∧ (m.in_ now size y).1.last = now ∧ (m.in_ now size y).1.shut = true := by
  obtain ⟨k1, k2, k3, k4, k5, k6, k7, _⟩ := in_ok h y h1 h2 hs
  refine ⟨k2, fun h9 => (k6 h9).1, ?_, k1, k3, k4.shut.trans hsh⟩
  cases ho : m.off with
  | true => rw [(k6 ho).2]; rfl
  | false =>
    rcases k7 ho with ⟨a, b⟩ | ⟨a, b⟩
    · rw [a, b, hsh]; rfl
    · rw [b, decide_eq_false a]; rfl
theorem MOk.open_ {m : Mt} (h : MOk m) : MOk { m with off := false } := ⟨h.r, h.b, h.mo, h.be, h.l, h.q0, h.q1⟩
def Mt.opened (m : Mt) : Mt := { m with off := false }

end Go.Proofs.Ytdphgjnflaahbaa
