/-
  Contracts of functions, and plain facts about them, that a claim of this seat uses.
-/
import Derived.Test.YtkhkmicbjnkicaaSx
import Derived.Lib.Mul64
import Derived.Laws.MathBits
import Derived.Laws.Externs
import Derived.Test.YtkhkmicbjnkicaaTWideNum
import Derived.Test.YtkhkmicbjnkicaaTRef
import Derived.Test.YtkhkmicbjnkicaaProg
namespace Go.Proofs.Ytkhkmicbjnkicaa
open Go.Sx
set_option linter.unusedVariables false
set_option linter.unusedSimpArgs false
set_option maxRecDepth 100000

noncomputable abbrev C0 : Cx Try.prog := cx0
def u64_ (n : Int) : SV1 := .a (.v (.int .u64 n))
def u2 (h l : Int) : SV1 := .agg [.v (.int .u64 h), .v (.int .u64 l)]
def in1 : List SV → Option Int
  | [.one (.a (.v (.int .u64 a)))] => some a
  | _ => none
def in2 : List SV → Option (Int × Int)
  | [.one (.a (.v (.int .u64 a))), .one (.a (.v (.int .u64 b)))] => some (a, b)
  | _ => none
def in3 : List SV → Option (Int × Int × Int)
  | [.one (.a (.v (.int .u64 a))), .one (.a (.v (.int .u64 b))), .one (.a (.v (.int .u64 c)))] => some (a, b, c)
  | _ => none
def in22 : List SV → Option (Int × Int × Int × Int)
  | [.one (.agg [.v (.int .u64 a), .v (.int .u64 b)]), .one (.agg [.v (.int .u64 c), .v (.int .u64 d)])] => some (a, b, c, d)
  | _ => none
theorem in1_ok (l : List SV) (x : Int) (h : in1 l = some x) : l = [.one (u64_ x)] := by
  unfold in1 at h; split at h <;> cases h; rfl
theorem in2_ok (l : List SV) (x : Int × Int) (h : in2 l = some x) : l = [.one (u64_ x.1), .one (u64_ x.2)] := by
  unfold in2 at h; split at h <;> cases h; rfl
theorem in3_ok (l : List SV) (x : Int × Int × Int) (h : in3 l = some x) : l = [.one (u64_ x.1), .one (u64_ x.2.1), .one (u64_ x.2.2)] := by
  unfold in3 at h; split at h <;> cases h; rfl
theorem in22_ok (l : List SV) (x : Int × Int × Int × Int) (h : in22 l = some x) : l = [.one (u2 x.1 x.2.1), .one (u2 x.2.2.1 x.2.2.2)] := by
  unfold in22 at h; split at h <;> cases h; rfl

theorem fn26 : FnOf Try.prog 26 Try.f26 := ⟨Try.func26, rfl, rfl, mixed⟩
theorem fn18 : FnOf Try.prog 18 Try.f18 := ⟨Try.func18, rfl, rfl, mixed⟩
theorem fn22 : FnOf Try.prog 22 Try.f22 := ⟨Try.func22, rfl, rfl, mixed⟩
theorem fn21 : FnOf Try.prog 21 Try.f21 := ⟨Try.func21, rfl, rfl, mixed⟩

set_option maxRecDepth 100000 in
theorem mul64_runs (x : Int × Int) (hx : obp (some (U64 x.1 ∧ U64 x.2))) : Runs C0 Try.f26 [.one (u64_ x.1), .one (u64_ x.2)] [] fun v _ => isRes (.tup [u64_ (x.1 * x.2 / 18446744073709551616), u64_ (x.1 * x.2 % 18446744073709551616)]) v := by
  obtain ⟨a, b⟩ := x
  obtain ⟨ha, hb⟩ := hx
  simp only at ha hb
  refine ⟨?_, ?_, trivial⟩
  · show a * b / 18446744073709551616 = IntKind.u64.wrap (IntKind.u64.wrap (IntKind.u64.wrap (a.fdiv (2 ^ min (Int.toNat 32) IntKind.u64.bits) * b.fdiv (2 ^ min (Int.toNat 32) IntKind.u64.bits)) + (IntKind.u64.wrap (IntKind.u64.wrap (a.fdiv (2 ^ min (Int.toNat 32) IntKind.u64.bits) * bits BinOp.and IntKind.u64 b 4294967295) + (IntKind.u64.wrap (bits BinOp.and IntKind.u64 a 4294967295 * bits BinOp.and IntKind.u64 b 4294967295)).fdiv (2 ^ min (Int.toNat 32) IntKind.u64.bits))).fdiv (2 ^ min (Int.toNat 32) IntKind.u64.bits)) + (IntKind.u64.wrap (bits BinOp.and IntKind.u64 (IntKind.u64.wrap (IntKind.u64.wrap (a.fdiv (2 ^ min (Int.toNat 32) IntKind.u64.bits) * bits BinOp.and IntKind.u64 b 4294967295) + (IntKind.u64.wrap (bits BinOp.and IntKind.u64 a 4294967295 * bits BinOp.and IntKind.u64 b 4294967295)).fdiv (2 ^ min (Int.toNat 32) IntKind.u64.bits))) 4294967295 + IntKind.u64.wrap (bits BinOp.and IntKind.u64 a 4294967295 * b.fdiv (2 ^ min (Int.toNat 32) IntKind.u64.bits)))).fdiv (2 ^ min (Int.toNat 32) IntKind.u64.bits))
    have hp : (2 : Int) ^ min (Int.toNat 32) IntKind.u64.bits = 4294967296 := by decide
    have hw : ∀ n : Int, U64 (IntKind.u64.wrap n) := fun n => by rw [wu64]; unfold U64; omega
    have hf : ∀ n : Int, n.fdiv 4294967296 = n / 4294967296 := fun n => Int.fdiv_eq_ediv_of_nonneg n (by decide)
    simp only [hp, hf, and_low32 a ha.1 ha.2, and_low32 b hb.1 hb.2, and_low32 _ (hw _).1 (hw _).2]
    simp only [wu64]
    exact (mul64_arith a b ha.1 ha.2 hb.1 hb.2).symm
  · show a * b % 18446744073709551616 = IntKind.u64.wrap (a * b)
    rw [wu64]

noncomputable def mul64S : PSpec Try.prog := pureSpec fn26 C0 rfl (Int × Int) in2 (fun x => [.one (u64_ x.1), .one (u64_ x.2)]) (fun (a, b) => some (U64 a ∧ U64 b)) (fun (a, b) => .tup [u64_ (a * b / 18446744073709551616), u64_ (a * b % 18446744073709551616)])
  in2_ok (fun _ => rfl) (fun _ => rfl) mul64_runs

noncomputable def cx1 : Cx Try.prog := { ps := [mul64S], es := [], is := [], n0 := 0, loops := fun _ => none, cuts := fun _ => none }
noncomputable def mulS : PSpec Try.prog := pureSpec fn18 cx1 rfl (Int × Int) in2 (fun x => [.one (u64_ x.1), .one (u64_ x.2)]) (fun (a, b) => some (U64 a ∧ U64 b)) (fun (a, b) => .one (u2 (a * b / 18446744073709551616) (a * b % 18446744073709551616)))
  in2_ok (fun _ => rfl) (fun _ => rfl) (fun x hx => ⟨hx, rfl, rfl, trivial⟩)
noncomputable def ofS : PSpec Try.prog := pureSpec fn22 C0 rfl Int in1 (fun x => [.one (u64_ x)]) (fun _ => none) (fun x => .one (u2 0 x))
  in1_ok (fun _ => rfl) (fun _ => rfl) (fun x _ => ⟨rfl, rfl, trivial⟩)

/-! ### sums and differences -/

def carry (n : Int) : Int := n / 18446744073709551616
def low64 (n : Int) : Int := n % 18446744073709551616
def borrow (x y b : Int) : Int := if x < y + b then 1 else 0

noncomputable def add64S : PSpec Try.prog := extSpec (f := 28) (Int × Int × Int) in3 (fun x => [.one (u64_ x.1), .one (u64_ x.2.1), .one (u64_ x.2.2)]) (fun (x, y, c) => some (U64 x ∧ U64 y ∧ 0 ≤ c ∧ c ≤ 1))
  (fun (x, y, c) => .tup [u64_ (low64 (x + y + c)), u64_ (carry (x + y + c))]) in3_ok (fun x hx e w => by
    obtain ⟨x, y, c⟩ := x
    obtain ⟨h1, h2, h3, h4⟩ := hx
    show (callFunc 28 #[.int .u64 x, .int .u64 y, .int .u64 c]).run Try.prog w = _
    rw [run_callFunc_extern Try.func28 (by kernel_rfl) (by kernel_rfl) (by kernel_rfl) (e := add64Entry) (by kernel_rfl), run_add64 x y c h1.1 h2.1 h3 h4]
    rfl)
noncomputable def cx2 : Cx Try.prog := { ps := [add64S], es := [], is := [], n0 := 0, loops := fun _ => none, cuts := fun _ => none }
/-- the sum's carry, and its high half -/
def addC (a b c d : Int) : Int := carry (a + c + carry (b + d + 0))
def addH (a b c d : Int) : Int := low64 (a + c + carry (b + d + 0))
def addV (a b c d : Int) : SV := .tup [u2 (if addC a b c d = 0 then addH a b c d else 0) (if addC a b c d = 0 then low64 (b + d + 0) else 0), .a (.v (.int .i64 (if addC a b c d = 0 then 0 else 10)))]
theorem add_runs (a b c d : Int) (ha : U64 a) (hb : U64 b) (hc : U64 c) (hd : U64 d) : Runs cx2 Try.f21 [.one (u2 a b), .one (u2 c d)] [] fun v _ => isRes (addV a b c d) v := by
  unfold U64 at *
  have h1 : 0 ≤ carry (b + d + 0) ∧ carry (b + d + 0) ≤ 1 := by unfold carry; omega
  have key : ∀ {p : Prop} [Decidable p] {x y z : Int}, (p → x = z) → (¬ p → y = z) → (if p then x else y) = z := fun h1 h2 => by split <;> simp_all
  repeat' (first | exact trivial | (refine fun _ => ?_) | refine ⟨?_, ?_⟩ | fail)
  all_goals first
    | omega
    | (refine key (fun h => ?_) (fun h => ?_) <;> first | rfl | (unfold addC at h; omega))
noncomputable def addS : PSpec Try.prog := pureSpec fn21 cx2 rfl (Int × Int × Int × Int) in22 (fun x => [.one (u2 x.1 x.2.1), .one (u2 x.2.2.1 x.2.2.2)]) (fun (a, b, c, d) => some (U64 a ∧ U64 b ∧ U64 c ∧ U64 d)) (fun (a, b, c, d) => addV a b c d)
  in22_ok (fun _ => rfl) (fun _ => rfl) (fun x h => add_runs x.1 x.2.1 x.2.2.1 x.2.2.2 h.1 h.2.1 h.2.2.1 h.2.2.2)
noncomputable def cx3 : Cx Try.prog := { ps := [mulS, ofS, addS], es := [], is := [], n0 := 0, loops := fun _ => none, cuts := fun _ => none }

end Go.Proofs.Ytkhkmicbjnkicaa
