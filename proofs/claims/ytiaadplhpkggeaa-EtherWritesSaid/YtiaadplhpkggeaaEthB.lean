/-
  Contracts of functions, and plain facts about them, that a claim of this seat uses.
-/
import Derived.Test.YtiaadplhpkggeaaSx
import Derived.Test.YtiaadplhpkggeaaFcsNum
import Derived.Test.YtiaadplhpkggeaaFcsBits
import Derived.Test.YtiaadplhpkggeaaFcsA
import Derived.Test.YtiaadplhpkggeaaFcsB
import Derived.Test.YtiaadplhpkggeaaFcsIn
import Derived.Test.YtiaadplhpkggeaaFcsC
import Derived.Test.YtiaadplhpkggeaaFcsJ
import Derived.Test.YtiaadplhpkggeaaFcsH
import Derived.Test.YtiaadplhpkggeaaEthNum
import Derived.Test.YtiaadplhpkggeaaEthA
import Derived.Test.YtiaadplhpkggeaaProg
namespace Go.Proofs.Ytiaadplhpkggeaa
open Go.Sx
set_option linter.unusedVariables false
set_option linter.unusedSimpArgs false
set_option maxRecDepth 100000

/-! frames: the laws' head. -/
theorem fn28 : FnOf Try.prog 28 Try.f28 := ⟨Try.func28, rfl, rfl, mixed⟩
abbrev fr0 : Fr := ⟨0, 0, 0, 0, 0, 0, 0, 0, 0, 0, 0, 0, false, 0, 0, false, false, 0, 35063, ⟨0, 0, 0, fun _ => 0⟩⟩
theorem fr0_ok : FrW fr0 ∧ Sml fr0 := ⟨⟨by decide, by decide, bw_zero⟩, by unfold Sml; exact Nat.zero_le _⟩
theorem fr0_chk : chk fr0 = 0 := by decide
theorem fr0_tot : tot fr0 = 60 := by decide
attribute [local irreducible] enter anyAlt Bw
noncomputable def cx28 : Cx Try.prog := { ps := [], es := [encS], is := [], n0 := 0, loops := fun _ => none, cuts := fun _ => none }
theorem ehead_runs (_ : Unit) (_ : obp (some True)) : Runs cx28 Try.f28 [] [] fun v _ => isRes (.one (.a (.v (.bool true)))) v := by
  have h0 := fr0_chk
  have h1 := fr0_tot
  repeat' (first | with_reducible exact trivial | with_reducible exact rfl | with_reducible exact Nat.le_refl _ | with_reducible exact (fun _ _ => rfl) | ((conv => whnf); first | (refine fun (x : CG) => ?_) | (refine fun _ => ?_) | refine ⟨?_, ?_⟩ | exact trivial | exact Nat.le_refl _ | exact lex_q (by kernel_rfl) | exact lex_t (by kernel_rfl) | exact lex_h (by kernel_rfl) | fail))
  · exact fr0_ok.1
  · exact fr0_ok.2
  all_goals (try exact absurd h0 (by assumption))
  all_goals (try dsimp only [cutR, cutL, id] at *)
  all_goals (try rw [h1] at *)
  all_goals (try omega)
  all_goals
    have hx := (by assumption : chk fr0 = 0 ∧ CB (60 + 4) (clG (inG fr0) 60) x)
    have hxl := hx.2.len
    have e12 : x.g (0 + Int.toNat 12) = 136 := (hx.2.2.2 12 (by decide)).trans (by rw [clG_old (by decide)]; decide)
    have e13 : x.g (0 + Int.toNat 13) = 247 := (hx.2.2.2 13 (by decide)).trans (by rw [clG_old (by decide)]; decide)
    first
    | (show 12 < x.cap; omega)
    | (show 13 < x.cap; omega)
    | exact absurd e12 (by assumption)
    | exact absurd e13 (by assumption)
noncomputable def eheadS : PSpec Try.prog := readN fn28 Sig.s0 (fun _ => cx28) (fun _ => some True) (fun _ => .one (.a (.v (.bool true)))) (fun _ => rfl) (fun _ => rfl) (fun _ => rfl) ehead_runs
theorem no_t {p : Prop} (h : (!true) = true) : p := absurd h (by decide)
theorem frw_data {f : Fr} (h : FrW f) {d : IS} (hd : Bw d) : FrW ⟨f.a0, f.a1, f.a2, f.a3, f.a4, f.a5, f.b0, f.b1, f.b2, f.b3, f.b4, f.b5, f.tg, f.vid, f.prio, f.drop, f.many, f.seq, f.typ, d⟩ := ⟨h.a, h.b, hd⟩
theorem frw_self {f : Fr} (h : FrW f) : FrW ⟨f.a0, f.a1, f.a2, f.a3, f.a4, f.a5, f.b0, f.b1, f.b2, f.b3, f.b4, f.b5, f.tg, f.vid, f.prio, f.drop, f.many, f.seq, f.typ, ⟨f.data.len, f.data.cap, f.data.N - 0, fun q => f.data.g (q + 0)⟩⟩ := h
theorem u8_of {a : Int} (h : (Lit.int .u8 a).wf = true) : 0 ≤ a ∧ a < 256 := by
  have := (Lit.wf_int_iff _ _).1 h
  have h1 : IntKind.u8.min = 0 := rfl
  have h2 : IntKind.u8.max = 255 := rfl
  omega
theorem den_fr {e : Env} {j : Nat} {A : Option Addr} {a0 a1 a2 a3 a4 a5 b0 b1 b2 b3 b4 b5 : Int} {tg : Bool} {vid prio : Int} {drop many : Bool} {seq typ : Int} {n c N : Nat} {g : Nat → Int} (h : e j = A) : (F1 j ⟨a0, a1, a2, a3, a4, a5, b0, b1, b2, b3, b4, b5, tg, vid, prio, drop, many, seq, typ, ⟨n, c, N, g⟩⟩).den e = .agg #[.int .u8 a0, .int .u8 a1, .int .u8 a2, .int .u8 a3, .int .u8 a4, .int .u8 a5, .int .u8 b0, .int .u8 b1, .int .u8 b2, .int .u8 b3, .int .u8 b4, .int .u8 b5, .bool tg, .int .i64 vid, .int .i64 prio, .bool drop, .bool many, .int .i64 seq, .int .i64 typ, .slice A n c] := by
  show Value.agg ([_, _, _, _, _, _, _, _, _, _, _, _, _, _, _, _, _, _, _, SA.den e (.slc j 1 0 n c)].toArray) = _
  rw [den_slc (A := A) h]; rfl
theorem fr_eta (f : Fr) : (⟨f.a0, f.a1, f.a2, f.a3, f.a4, f.a5, f.b0, f.b1, f.b2, f.b3, f.b4, f.b5, f.tg, f.vid, f.prio, f.drop, f.many, f.seq, f.typ, ⟨f.data.len, f.data.cap, f.data.N - 0, fun q => f.data.g (q + 0)⟩⟩ : Fr) = f := rfl
theorem and16 (a : Int) : bits .and .i64 a 65535 = a % 65536 := by
  have h1 : ((BitVec.ofInt 64 a).toNat : Int) = a % 18446744073709551616 := by rw [BitVec.toNat_ofInt]; omega
  have h3 : (BitVec.ofInt 64 a &&& BitVec.ofInt 64 65535).toNat = (BitVec.ofInt 64 a).toNat % 65536 := by
    rw [BitVec.toNat_and, show (BitVec.ofInt 64 65535).toNat = 2 ^ 16 - 1 from rfl, Nat.and_two_pow_sub_one_eq_mod]
  show IntKind.i64.wrap ((BitVec.ofInt 64 a &&& BitVec.ofInt 64 65535).toNat : Int) = _
  rw [h3, w64' (by omega) (by omega)]; omega
theorem tot_bd {f : Fr} (h : chk f = 0) : 60 ≤ tot f ∧ tot f ≤ 1596 := by
  have h2 := (chk_0 h).2.2.2.2
  have h3 := siz_tot f
  have h4 : 60 ≤ tot f := by unfold tot; omega
  omega
theorem clG_op {f : Fr} (hf : FrW f) : opB (clG (inG f) (tot f)) (tot f + 4) := by
  have hb : Bytes (inG f) (tot f) := fun r _ => inG_wf hf r
  exact ⟨by omega, by rw [Nat.add_sub_cancel, clG_crc, clG_le hb]⟩

end Go.Proofs.Ytiaadplhpkggeaa
