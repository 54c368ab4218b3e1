/-
  For every slice of bytes and every place the law FcsHits answers true and leaves all memory as it was.
-/
import Derived.Test.YtiaadplhpkggeaaSx
import Derived.Test.YtiaadplhpkggeaaFcsNum
import Derived.Test.YtiaadplhpkggeaaFcsBits
import Derived.Test.YtiaadplhpkggeaaFcsA
import Derived.Test.YtiaadplhpkggeaaFcsB
import Derived.Test.YtiaadplhpkggeaaFcsC
import Derived.Test.YtiaadplhpkggeaaFcsIn
import Derived.Test.YtiaadplhpkggeaaFcsJ
import Derived.Test.YtiaadplhpkggeaaFcsH
import Derived.Test.YtiaadplhpkggeaaRows
import Derived.WalkKit
import Derived.ProofKit
import Derived.OpenShut
namespace Go.Proofs.Ytiaadplhpkggeaa.fcsHits
open Go.ChangeShapes Go.WideShapes Go.ChangeAt Go.RowKit Go.Sx
set_option linter.unusedVariables false
set_option linter.unusedSimpArgs false
set_option maxRecDepth 100000

attribute [local irreducible] enter anyAlt Bw
theorem and16 (a : Int) : bits .and .i64 a 65535 = a % 65536 := by
  have h1 : ((BitVec.ofInt 64 a).toNat : Int) = a % 18446744073709551616 := by rw [BitVec.toNat_ofInt]; omega
  have h3 : (BitVec.ofInt 64 a &&& BitVec.ofInt 64 65535).toNat = (BitVec.ofInt 64 a).toNat % 65536 := by
    rw [BitVec.toNat_and, show (BitVec.ofInt 64 65535).toNat = 2 ^ 16 - 1 from rfl, Nat.and_two_pow_sub_one_eq_mod]
  show IntKind.i64.wrap ((BitVec.ofInt 64 a &&& BitVec.ofInt 64 65535).toNat : Int) = _
  rw [h3, w64' (by omega) (by omega)]; omega
/-- one bit that was turned is found -/
theorem hit_two {g : Nat → Int} {n p : Nat} {d : IS} (hg : Bytes g n) (hn : 4 ≤ n) (hn2 : n ≤ 44) (hp : p < 8 * n) (hf : opB g n) (hl : d.len = n) (hd : ∀ r, r < n → d.g r = flp g p r) : hitI d = ((p / 8 : Nat) : Int) ∧ hitK d = ((p % 8 : Nat) : Int) ∧ hitO d = true := by
  have h1 : ¬ opB d.g n := fun h => one_bit hg hn hp hf ((opB_congr hd).1 h)
  have h2 : ∀ q, q < 8 * n → (opB (flp d.g q) n ↔ q = p) := fun q hq => by
    rw [← two_bits hg hn hn2 hp hq hf]
    exact opB_congr fun r hr => flp_congr hd q r hr
  unfold hitI hitK hitO
  rw [hl, hit_some h1 hn hp (fun q hq h => by have := (h2 q (by omega)).1 h; omega) ((h2 p hp).2 rfl)]
  exact ⟨rfl, rfl, rfl⟩
noncomputable def cxL : Cx Try.prog := { ps := [headS, hitS], es := [copyS, closeS], is := [], n0 := 1, loops := fun _ => none, cuts := fun _ => none }
set_option maxHeartbeats 16000000 in
theorem runs (a : IS) (at_ : Int) (hw : Bw a) (hat : -9223372036854775808 ≤ at_ ∧ at_ ≤ 9223372036854775807) : Runs cxL Try.f9 [D1 0 a, int_ .i64 at_] [roB a] yes := by
  obtain ⟨hb, hc, hN, hm⟩ := hw.out
  have hs := hw.self
  have hcl := clG_wf hb
  have h16 := and16 at_
  have p0 := Int.emod_nonneg (at_ % 65536) (show 8 * (((a.len + 4 : Nat)) : Int) ≠ 0 by omega)
  have p1 := Int.emod_lt_of_pos (at_ % 65536) (show 0 < 8 * (((a.len + 4 : Nat)) : Int) by omega)
  repeat' (first | exact trivial | with_reducible exact rfl | exact Nat.le_refl _ | with_reducible exact (fun _ _ => rfl) | ((conv => whnf); first | (refine fun (x : CG) => ?_) | (refine fun _ => ?_) | refine ⟨?_, ?_⟩ | exact trivial | exact lex_q (by kernel_rfl) | exact lex_t (by kernel_rfl) | exact lex_h (by kernel_rfl) | fail))
  all_goals (try dsimp only [cutR, cutL, id] at *)
  all_goals (try simp only [h16] at *)
  all_goals (try simp (disch := omega) only [fdiv_nn, Int.reduceToNat, IntKind.bits, Nat.min_def, Nat.reduceLeDiff, if_true, if_false, Int.reducePow, wu8, wu32, w64', wu64', tdiv_pos, tmod_pos, Int.toNat_natCast, Nat.zero_add] at *)
  all_goals (generalize at_ % 65536 % (8 * (((a.len + 4 : Nat)) : Int)) = p at *)
  all_goals (try simp (disch := omega) only [fdiv_nn, Int.reduceToNat, IntKind.bits, Nat.min_def, Nat.reduceLeDiff, if_true, if_false, Int.reducePow, wu8, wu32, w64', wu64', tdiv_pos, tmod_pos, Int.toNat_natCast, Nat.zero_add] at *)
  all_goals (try omega)
  all_goals (try exact absurd (by assumption : (!true) = true) (by decide))
  all_goals (try exact absurd (by assumption : (!true) = false) (by decide))
  all_goals
    have hcb : Bytes (clG a.g a.len) (a.len + 4) := fun r _ => hcl r
    have hop : opB (clG a.g a.len) (a.len + 4) := ⟨by omega, by rw [show a.len + 4 - 4 = a.len by omega, clG_crc, clG_le hb]⟩
    have h1 := (by assumption : CB (a.len + 4) (clG (fun q => a.g (q + 0)) a.len) _)
    have w1 := h1.bw fun r _ => hcl r
    have o1 := close_op hb h1
    first
    | exact w1
    | exact absurd (by assumption : hitO _ = true) (by rw [(hit0 (a := ⟨a.len + 4, CG.cap _, CG.cap _ - 0, fun q => CG.g _ (q + 0)⟩) (.inl o1)).2.2]; decide)
    | (have h2 := (by assumption : CB (a.len + 4) (fun q => CG.g _ (q + 0)) _)
       have l2 : a.len + 4 ≤ CG.cap _ := h2.1
       have l3 : CG.cap _ ≤ 9223372036854775807 := h2.2.1
       have e2 : ∀ r, r < a.len + 4 → CG.g _ r = clG a.g a.len r := fun r hr => (h2.2.2 r hr).trans (h1.2.2 r hr)
       have b2 := hcb.congr e2
       first
       | omega
       | (have ht := turned b2 p0 p1
          have hF := funext ht
          have hd : ∀ r, r < a.len + 4 → _ = flp (clG a.g a.len) p.toNat r := fun r hr => (ht r).trans (flp_congr e2 _ r hr)
          have hFb : Bytes _ (a.len + 4) := ((Off.flpd (p := p.toNat) hcb).bytes hcb).congr hd
          first
          | exact Bw.mk hFb l2 l2 l3
          | (have hh := hit_two (p := p.toNat) (d := ⟨a.len + 4, x.cap, x.cap - 0, fun q => if q = (p / 8).toNat then bits .xor .u8 (x.g (p / 8).toNat) (((1 : Int) * 2 ^ (if (p % 8).toNat ≤ 8 then (p % 8).toNat else 8)) % 256) else x.g q⟩) hcb (by omega) (by omega) (by omega) hop rfl hd
             obtain ⟨h5, h6, h7⟩ := hh
             simp only [Nat.add_zero, h5, h6, h7] at *
             first
             | omega
             | exact absurd (by assumption : (!true) = true) (by decide)
             | (symm; apply decide_eq_true; omega)
             | (simp at *; omega))))

theorem own : ownKnob Try.prog.godebug = none := by kernel_rfl

set_option maxRecDepth 100000 in
theorem lifted (os : Os) (started : os.Started) (H : Type) (enc : TypeId × Value → H) :
    ReturnsInHanded {} Try.checked os 9 .any (Rows.fcsHitsSpec.pre6 enc Try.prog Try.f9 Rows.fcsHitsRow.domain false) (Rows.fcsHitsSpec.post enc Try.prog Try.f9 false true false false) := by
  refine returnsInHanded_of_change (C := Try.checked) own started (by kernel_rfl) Try.func9
    (ChangeSpec.witness6 (enc := enc) (C := Try.checked) false ⟨#[], #[.slice none 0 0, .int .i64 0], []⟩ 8 (by kernel_rfl) (by kernel_rfl) (by kernel_rfl) (by kernel_rfl)) ?_
  intro W base args ds gs before hval0 hW hcnd _
  have hval : ∀ (j : Nat) t v, Try.f9.params[j]? = some t → args[j]? = some v → Value.okWide Try.prog W .any base t v := hval0
  have hW' := hW
  obtain ⟨p, q, hA0, hV, rfl, hfz, hnd⟩ := hW
  have hA : DataW.TrodAll enc Try.prog W 0 (fun _ => true) true Try.f9.params.toList args.toList ds p := hA0
  rw [Try.params9] at hA hval
  obtain ⟨v0, vs0, d0, ds0, p0, q0, hargs0, rfl, rfl, h0, r0⟩ := trodAll_cons hA
  obtain ⟨v1, vs1, d1, ds1, p1, q1, hargs1, rfl, rfl, h1, r1⟩ := trodAll_cons r0
  obtain ⟨rfl, rfl, rfl⟩ := trodAll_nil r1
  obtain ⟨rfl, rfl⟩ := trodVars_none hV
  obtain rfl : args = #[v0, v1] := by cases args; simp_all
  obtain ⟨A0, n0, c0, s0⟩ := slice_open (d := 6) (row := [some .u8]) Try.underlying28 (by kernel_rfl) (by kernel_rfl) (hval 0 28 v0 rfl rfl) h0
  obtain ⟨a1, rfl, rfl, rfl, w1⟩ := open_int Try.underlying3 (hval 1 3 v1 rfl rfl) h1
  refine Calls.mono (law_calls mixed Try.func9 (runs ⟨n0, c0, n0, fun r => intC W A0 (r * 1 + 0)⟩ a1 (bw_of s0) (i64_of w1)) (rel_one s0.reg) (Nat.le_refl 1) (by rw [s0.val]; exact congrArg (fun x => #[x, _]) (den_slc (e := fun _ => A0) (i := 0) (st := 1) rfl).symm)) fun e W' ⟨he, hb⟩ => ?_
  subst he
  exact ⟨_, rfl, law_post hW' rfl rfl (by kernel_rfl) (by decide +kernel) rfl Try.underlying4 hb⟩

theorem over : Rows.fcsHitsRow.holds Try.pinned (OpenSpec.ofChange Rows.fcsHitsSpec) :=
  OpenClaim.holds_of_wide 9 Try.f9 rfl rfl rfl rfl rfl rfl rfl ⟨rfl, rfl, rfl, rfl, rfl⟩ rfl rfl rfl rfl rfl (by kernel_rfl) Try.func9 (by kernel_rfl)
    (of_decide_eq_true (by kernel_rfl)) (by unfold Func.isWrapper; first | (rw [if_pos (by decide +kernel)]; kernel_rfl) | (rw [if_neg (by decide +kernel)]; exact ⟨rfl, rfl⟩))
    (fun os started H enc _ => lifted os started H enc)

/-- FcsHits -/
theorem proved : Rows.FcsHitsSaid := over
#print axioms proved
end Go.Proofs.Ytiaadplhpkggeaa.fcsHits
