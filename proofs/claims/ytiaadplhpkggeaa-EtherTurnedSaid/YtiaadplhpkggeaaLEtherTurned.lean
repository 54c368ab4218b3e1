/-
  For every frame and every place the law EtherTurned answers true and leaves all memory as it was.
-/
import Derived.Test.YtiaadplhpkggeaaSx
import Derived.Test.YtiaadplhpkggeaaFcsNum
import Derived.Test.YtiaadplhpkggeaaFcsBits
import Derived.Test.YtiaadplhpkggeaaFcsA
import Derived.Test.YtiaadplhpkggeaaFcsB
import Derived.Test.YtiaadplhpkggeaaFcsIn
import Derived.Test.YtiaadplhpkggeaaFcsC
import Derived.Test.YtiaadplhpkggeaaFcsJ
import Derived.Test.YtiaadplhpkggeaaFcsH
import Derived.Test.YtiaadplhpkggeaaEthNum
import Derived.Test.YtiaadplhpkggeaaEthA
import Derived.Test.YtiaadplhpkggeaaEthB
import Derived.Test.YtiaadplhpkggeaaEthD
import Derived.Test.YtiaadplhpkggeaaRows
import Derived.WalkKit
import Derived.ProofKit
import Derived.OpenShut
namespace Go.Proofs.Ytiaadplhpkggeaa.etherTurned
open Go.ChangeShapes Go.WideShapes Go.ChangeAt Go.RowKit Go.Sx
set_option linter.unusedVariables false
set_option linter.unusedSimpArgs false
set_option maxRecDepth 100000

attribute [local irreducible] enter anyAlt Bw chk
abbrev turnedD (f : Fr) (x : CG) (p : Int) : IS := ⟨tot f + 4, x.cap, x.cap - 0, fun q => if q + 0 = (p / 8).toNat then bits .xor .u8 (x.g (p / 8).toNat) (((1 : Int) * 2 ^ (if (p % 8).toNat ≤ 8 then (p % 8).toNat else 8)) % 256) else x.g (q + 0)⟩
theorem turned_d {f : Fr} {x : CG} {p : Int} (hf : FrW f) (hk : chk f = 0) (hx : CB (tot f + 4) (clG (inG f) (tot f)) x) (p0 : 0 ≤ p) (p1 : p < 8 * ((tot f + 4 : Nat) : Int)) :
    Bw (turnedD f x p) ∧ derr (turnedD f x p) = 22 := by
  have htb := tot_bd hk
  have hbI : Bytes (inG f) (tot f) := fun r _ => inG_wf hf r
  have hcb : Bytes (clG (inG f) (tot f)) (tot f + 4) := fun r _ => clG_wf hbI r
  have hop := clG_op hf
  have e2 : ∀ r, r < tot f + 4 → x.g r = clG (inG f) (tot f) r := hx.2.2
  have b2 := hcb.congr e2
  have ht := turned b2 p0 p1
  have hd : ∀ r, r < tot f + 4 → _ = flp (clG (inG f) (tot f)) p.toNat r := fun r hr => (ht r).trans (flp_congr e2 _ r hr)
  have hFb : Bytes _ (tot f + 4) := ((Off.flpd (p := p.toNat) hcb).bytes hcb).congr hd
  exact ⟨Bw.mk hFb hx.1 hx.1 hx.2.1, derr_22 (by show ¬ tot f + 4 < 64; omega) (by show ¬ 1600 < tot f + 4; omega) (fun h => one_bit hcb (by omega) (by omega) hop ((opB_congr hd).1 h))⟩
noncomputable def cxL : Cx Try.prog := { ps := [eheadS], es := [encS, decS], is := [], n0 := 1, loops := fun _ => none, cuts := fun _ => none }
set_option maxHeartbeats 16000000 in
theorem runs (f : Fr) (at_ : Int) (hf : FrW f) : Runs cxL Try.f14 [F1 0 f, int_ .i64 at_] [roB f.data] yes := by
  have hd := hf.d.out
  have h16 := and16 at_
  have p0 := Int.emod_nonneg (at_ % 65536) (show 8 * (((tot f + 4 : Nat)) : Int) ≠ 0 by omega)
  have p1 := Int.emod_lt_of_pos (at_ % 65536) (show 0 < 8 * (((tot f + 4 : Nat)) : Int) by omega)
  repeat' (first | with_reducible exact trivial | with_reducible exact rfl | with_reducible exact Nat.le_refl _ | with_reducible exact (fun _ _ => rfl) | ((conv => whnf); first | (refine fun (x : CG) => ?_) | (refine fun _ => ?_) | refine ⟨?_, ?_⟩ | exact trivial | exact Nat.le_refl _ | exact lex_q (by kernel_rfl) | exact lex_t (by kernel_rfl) | exact lex_h (by kernel_rfl) | fail))
  all_goals (try exact no_t (by assumption))
  all_goals (try dsimp only [cutR, cutL, id] at *)
  all_goals (try simp only [fr_eta, h16] at *)
  all_goals (try exact hf)
  all_goals (try (unfold Sml; omega))
  all_goals (try (have hh := (by assumption : chk f ≠ 0); exact absurd (Decidable.not_not.1 (by assumption)) hh))
  all_goals (try (have hh := (by assumption : chk f = 0 ∧ CB (tot f + 4) (clG (inG f) (tot f)) _)))
  all_goals (try (have htb := tot_bd hh.1; have hhl := hh.2.len))
  all_goals (try simp (disch := omega) only [fdiv_nn, Int.reduceToNat, IntKind.bits, Nat.min_def, Nat.reduceLeDiff, if_true, if_false, Int.reducePow, wu8, wu32, w64', wu64', tdiv_pos, tmod_pos, Int.toNat_natCast, Nat.zero_add] at *)
  all_goals (generalize at_ % 65536 % (8 * (((tot f + 4 : Nat)) : Int)) = p at *)
  all_goals (try simp (disch := omega) only [fdiv_nn, Int.reduceToNat, IntKind.bits, Nat.min_def, Nat.reduceLeDiff, if_true, if_false, Int.reducePow, wu8, wu32, w64', wu64', tdiv_pos, tmod_pos, Int.toNat_natCast, Nat.zero_add] at *)
  all_goals (try omega)
  all_goals
    have ht := turned_d hf hh.1 hh.2 p0 p1
    first
    | exact ht.1
    | (simp only [ht.2] at *
       first
       | rfl
       | exact absurd rfl (by assumption)
       | exact absurd trivial (by assumption)
       | exact absurd (by assumption : (22 : Int) = 0 ∧ _).1 (by decide))

theorem own : ownKnob Try.prog.godebug = none := by kernel_rfl

set_option maxRecDepth 100000 in
theorem lifted (os : Os) (started : os.Started) (H : Type) (enc : TypeId × Value → H) :
    ReturnsInHanded {} Try.checked os 14 .any (Rows.etherTurnedSpec.pre6 enc Try.prog Try.f14 Rows.etherTurnedRow.domain false) (Rows.etherTurnedSpec.post enc Try.prog Try.f14 false true false false) := by
  refine returnsInHanded_of_change (C := Try.checked) own started (by kernel_rfl) Try.func14
    (ChangeSpec.witness6 (enc := enc) (C := Try.checked) false ⟨#[], #[.agg #[.int .u8 0, .int .u8 0, .int .u8 0, .int .u8 0, .int .u8 0, .int .u8 0, .int .u8 0, .int .u8 0, .int .u8 0, .int .u8 0, .int .u8 0, .int .u8 0, .bool false, .int .i64 0, .int .i64 0, .bool false, .bool false, .int .i64 0, .int .i64 0, .slice none 0 0], .int .i64 0], []⟩ 8 (by kernel_rfl) (by kernel_rfl) (by kernel_rfl) (by kernel_rfl)) ?_
  intro W base args ds gs before hval0 hW hcnd _
  have hval : ∀ (j : Nat) t v, Try.f14.params[j]? = some t → args[j]? = some v → Value.okWide Try.prog W .any base t v := hval0
  have hW' := hW
  obtain ⟨p, q, hA0, hV, rfl, hfz, hnd⟩ := hW
  have hA : DataW.TrodAll enc Try.prog W 0 (fun _ => true) true Try.f14.params.toList args.toList ds p := hA0
  rw [Try.params14] at hA hval
  obtain ⟨v0, vs0, d0, ds0, p0, q0, hargs0, rfl, rfl, h0, r0⟩ := trodAll_cons hA
  obtain ⟨v1, vs1, d1, ds1, p1, q1, hargs1, rfl, rfl, h1, r1⟩ := trodAll_cons r0
  obtain ⟨rfl, rfl, rfl⟩ := trodAll_nil r1
  obtain ⟨rfl, rfl⟩ := trodVars_none hV
  obtain rfl : args = #[v0, v1] := by cases args; simp_all
  obtain ⟨a1, rfl, rfl, rfl, w1⟩ := open_int Try.underlying3 (hval 1 3 v1 rfl rfl) h1
  obtain ⟨cs0, hv0, hl0, hc0⟩ := mix_agg (d := 6) (ss := [.num (some .u8), .num (some .u8), .num (some .u8), .num (some .u8), .num (some .u8), .num (some .u8), .num (some .u8), .num (some .u8), .num (some .u8), .num (some .u8), .num (some .u8), .num (some .u8), .num (none), .num (some .i64), .num (some .i64), .num (none), .num (none), .num (some .i64), .num (some .i64), .sl [some .u8]]) Try.underlying43 (by kernel_rfl) (by kernel_rfl) (hval 0 43 v0 rfl rfl) h0
  have g0_0 := listMix_of hl0 hc0
  clear hl0 hc0
  obtain ⟨_, cs0_1, rfl, ⟨b0_0, rfl, w0_0⟩, g0_1⟩ := listMix_cons g0_0
  obtain ⟨_, cs0_2, rfl, ⟨b0_1, rfl, w0_1⟩, g0_2⟩ := listMix_cons g0_1
  obtain ⟨_, cs0_3, rfl, ⟨b0_2, rfl, w0_2⟩, g0_3⟩ := listMix_cons g0_2
  obtain ⟨_, cs0_4, rfl, ⟨b0_3, rfl, w0_3⟩, g0_4⟩ := listMix_cons g0_3
  obtain ⟨_, cs0_5, rfl, ⟨b0_4, rfl, w0_4⟩, g0_5⟩ := listMix_cons g0_4
  obtain ⟨_, cs0_6, rfl, ⟨b0_5, rfl, w0_5⟩, g0_6⟩ := listMix_cons g0_5
  obtain ⟨_, cs0_7, rfl, ⟨b0_6, rfl, w0_6⟩, g0_7⟩ := listMix_cons g0_6
  obtain ⟨_, cs0_8, rfl, ⟨b0_7, rfl, w0_7⟩, g0_8⟩ := listMix_cons g0_7
  obtain ⟨_, cs0_9, rfl, ⟨b0_8, rfl, w0_8⟩, g0_9⟩ := listMix_cons g0_8
  obtain ⟨_, cs0_10, rfl, ⟨b0_9, rfl, w0_9⟩, g0_10⟩ := listMix_cons g0_9
  obtain ⟨_, cs0_11, rfl, ⟨b0_10, rfl, w0_10⟩, g0_11⟩ := listMix_cons g0_10
  obtain ⟨_, cs0_12, rfl, ⟨b0_11, rfl, w0_11⟩, g0_12⟩ := listMix_cons g0_11
  obtain ⟨_, cs0_13, rfl, ⟨b0_12, rfl⟩, g0_13⟩ := listMix_cons g0_12
  obtain ⟨_, cs0_14, rfl, ⟨b0_13, rfl, w0_13⟩, g0_14⟩ := listMix_cons g0_13
  obtain ⟨_, cs0_15, rfl, ⟨b0_14, rfl, w0_14⟩, g0_15⟩ := listMix_cons g0_14
  obtain ⟨_, cs0_16, rfl, ⟨b0_15, rfl⟩, g0_16⟩ := listMix_cons g0_15
  obtain ⟨_, cs0_17, rfl, ⟨b0_16, rfl⟩, g0_17⟩ := listMix_cons g0_16
  obtain ⟨_, cs0_18, rfl, ⟨b0_17, rfl, w0_17⟩, g0_18⟩ := listMix_cons g0_17
  obtain ⟨_, cs0_19, rfl, ⟨b0_18, rfl, w0_18⟩, g0_19⟩ := listMix_cons g0_18
  obtain ⟨u0_19, cs0_20, rfl, ⟨A0_19, n0_19, c0_19, s0_19⟩, g0_20⟩ := listMix_cons g0_19
  obtain rfl := listMix_nil g0_20
  subst hv0
  refine Calls.mono (law_calls mixed Try.func14 (runs ⟨b0_0, b0_1, b0_2, b0_3, b0_4, b0_5, b0_6, b0_7, b0_8, b0_9, b0_10, b0_11, b0_12, b0_13, b0_14, b0_15, b0_16, b0_17, b0_18, ⟨n0_19, c0_19, n0_19, fun r => intC W A0_19 (r * 1 + 0)⟩⟩ a1 ⟨⟨u8_of w0_0, u8_of w0_1, u8_of w0_2, u8_of w0_3, u8_of w0_4, u8_of w0_5⟩, ⟨u8_of w0_6, u8_of w0_7, u8_of w0_8, u8_of w0_9, u8_of w0_10, u8_of w0_11⟩, bw_of s0_19⟩) (e := envOf [A0_19]) (rel_in1 s0_19.reg) (Nat.le_refl 1) (by rw [s0_19.val]; exact congrArg (fun x => #[x, _]) (den_fr (A := A0_19) rfl).symm)) fun e W' ⟨he, hb⟩ => ?_
  subst he
  exact ⟨_, rfl, law_post hW' rfl rfl (by kernel_rfl) (by decide +kernel) rfl Try.underlying4 hb⟩

theorem over : Rows.etherTurnedRow.holds Try.pinned (OpenSpec.ofChange Rows.etherTurnedSpec) :=
  OpenClaim.holds_of_wide 14 Try.f14 rfl rfl rfl rfl rfl rfl rfl ⟨rfl, rfl, rfl, rfl, rfl⟩ rfl rfl rfl rfl rfl (by kernel_rfl) Try.func14 (by kernel_rfl)
    (of_decide_eq_true (by kernel_rfl)) (by unfold Func.isWrapper; first | (rw [if_pos (by decide +kernel)]; kernel_rfl) | (rw [if_neg (by decide +kernel)]; exact ⟨rfl, rfl⟩))
    (fun os started H enc _ => lifted os started H enc)

/-- EtherTurned -/
theorem proved : Rows.EtherTurnedSaid := over
#print axioms proved
end Go.Proofs.Ytiaadplhpkggeaa.etherTurned
