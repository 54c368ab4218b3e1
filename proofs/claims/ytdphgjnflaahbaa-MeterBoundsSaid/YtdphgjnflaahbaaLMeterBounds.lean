/-
  For every setup and all frames the law MeterBounds answers true and leaves all memory as it was.
-/
import Derived.Test.YtdphgjnflaahbaaSx
import Derived.Test.YtdphgjnflaahbaaMWideNum
import Derived.Test.YtdphgjnflaahbaaMRefA
import Derived.Test.YtdphgjnflaahbaaMRefB
import Derived.Test.YtdphgjnflaahbaaMWideU
import Derived.Test.YtdphgjnflaahbaaMLen
import Derived.Test.YtdphgjnflaahbaaMDiv64
import Derived.Test.YtdphgjnflaahbaaMDivU
import Derived.Test.YtdphgjnflaahbaaMMulDiv
import Derived.Test.YtdphgjnflaahbaaMHeld
import Derived.Test.YtdphgjnflaahbaaMetA
import Derived.Test.YtdphgjnflaahbaaMetB
import Derived.Test.YtdphgjnflaahbaaMetC
import Derived.Test.YtdphgjnflaahbaaMetD
import Derived.Test.YtdphgjnflaahbaaRows
import Derived.WalkKit
import Derived.ProofKit
import Derived.OpenShut
namespace Go.Proofs.Ytdphgjnflaahbaa.meterBounds
open Go.ChangeShapes Go.WideShapes Go.ChangeAt Go.RowKit Go.Sx
set_option linter.unusedVariables false
set_option linter.unusedSimpArgs false
set_option maxRecDepth 100000

structure BZ where
  i : Nat
  now : Int
  g : Int
  m : Mt
def cfB (c : Cf) : Cf := ⟨c.rate % 1048576, c.burst % 16777216, c.more, c.beyond, c.couple, c.aware, c.shut⟩
theorem cfB_ok {c : Cf} (h : CfM c) : (⟨bits .and .i64 c.rate 1048575, bits .and .i64 c.burst 16777215, c.more, c.beyond, c.couple, c.aware, c.shut⟩ : Cf) = cfB c ∧ CfM (cfB c) := by
  obtain ⟨h1, h2, h3, h4⟩ := h
  refine ⟨?_, ⟨?_, ?_, h3, h4⟩⟩
  · rw [and_20, and_24]; rfl
  · show 0 ≤ c.rate % 1048576 ∧ c.rate % 1048576 ≤ _; omega
  · show 0 ≤ c.burst % 16777216 ∧ c.burst % 16777216 ≤ _; omega
theorem bl_b {c : Cf} : IntKind.i64.wrap (bits .and .i64 c.burst 16777215 * 1000000000) = (mt0 (cfB c) 0).p0 := by
  rw [and_24, w64' (by omega) (by omega)]; rfl
theorem bl_m {c : Cf} (h : CfM c) : IntKind.i64.wrap (c.beyond * 1000000000) = (mt0 (cfB c) 0).p1 := by
  unfold CfM at h
  rw [w64' (by omega) (by omega)]; rfl
theorem bd_step {m : Mt} (h : MOk m) {g now : Int} (hl : m.last ≤ now) (hn : now ≤ 1099511627776)
    (hinv : g * 1000000000 + m.p0 ≤ m.burst * 1000000000 + m.rate * m.last) {size : Int} (y : Bool) (hs : 0 ≤ size ∧ size ≤ 1600) :
    ((m.in_ now size y).2.1 = 0 → (g + 8 * size) * 1000000000 + (m.in_ now size y).1.p0 ≤ m.burst * 1000000000 + m.rate * now) ∧
    ((m.in_ now size y).2.1 ≠ 0 → g * 1000000000 + (m.in_ now size y).1.p0 ≤ m.burst * 1000000000 + m.rate * now) := by
  obtain ⟨_, _, _, _, _, _, _, k8, k9⟩ := in_ok h y hl hn hs
  have hp := p0_gain h hl
  rw [Int.mul_sub] at hp
  generalize m.rate * now = z1 at *
  generalize m.rate * m.last = z2 at *
  refine ⟨fun h0 => ?_, fun h0 => ?_⟩
  · rw [k8 h0]; omega
  · rw [k9 h0]; omega
theorem bd_test {G B R n p : Int} (hG : 0 ≤ G ∧ G ≤ 2000000) (hB : 0 ≤ B ∧ B ≤ 16777216) (hR : 0 ≤ R ∧ R ≤ 1048576) (hn : 0 ≤ n ∧ n ≤ 2147483648) (hp : 0 ≤ p) (h : G * 1000000000 + p ≤ B * 1000000000 + R * n) :
    ¬ IntKind.i64.wrap (B + IntKind.i64.wrap ((IntKind.i64.wrap (n * R)).tdiv 1000000000)) < G := by
  have h0 : 0 ≤ n * R := Int.mul_nonneg hn.1 hR.1
  have h1 : n * R ≤ 2147483648 * 1048576 := Int.mul_le_mul hn.2 hR.2 hR.1 (by decide)
  rw [Int.mul_comm R n] at h
  generalize n * R = z at *
  rw [w64' (n := z) (by omega) (by omega), Int.tdiv_eq_ediv_of_nonneg h0, w64' (n := z / 1000000000) (by omega) (by omega), w64' (by omega) (by omega)]
  omega
theorem bd_bits {p B : Int} (hB : 0 ≤ B ∧ B ≤ 8589934592) (h : 0 ≤ p ∧ p ≤ B * 1000000000) : ¬ B < IntKind.i64.wrap (p.tdiv 1000000000) ∧ ¬ IntKind.i64.wrap (p.tdiv 1000000000) < 0 := by
  rw [Int.tdiv_eq_ediv_of_nonneg h.1, w64' (by omega) (by omega)]
  omega
abbrev laB (st : ST) (c : Cf) : LA where
  ι := BZ
  inv := fun x => x.i ≤ st.len ∧ (0 ≤ x.now ∧ x.now ≤ 16777215 * x.i) ∧ (0 ≤ x.g ∧ x.g ≤ 12800 * x.i) ∧ MOk x.m ∧ x.m.last ≤ x.now ∧ x.m.rate = (cfB c).rate ∧ x.m.burst = (cfB c).burst ∧ x.m.beyond = (cfB c).beyond ∧ x.g * 1000000000 + x.m.p0 ≤ x.m.burst * 1000000000 + x.m.rate * x.m.last
  T := fun x => ⟨112, [(2, .one (.a (.ptr 1 0))), (5, .one (.a (.ptr 2 0))), (7, int_ .i64 x.now), (8, int_ .i64 x.g), (40, .one (.a (.slc 0 3 0 st.len st.cap))), (41, int_ .i64 st.len), (42, int_ .i64 x.i)], [roT st, some ⟨true, .flat (cfB c).cells⟩, some ⟨true, .flat x.m.cells⟩]⟩
  μ := fun x => st.len - x.i
  ren := fun S => [0, S.ix 2, S.ix 5]
noncomputable def cxL (st : ST) (c : Cf) : Cx Try.prog := { ps := [hdS, chkMS, bitsS], es := [minS, minF], is := [inl fn10 cxNew], n0 := 1, loops := fun i => match i with | 13 => some (.inv (laB st c)) | _ => none, cuts := fun _ => none }
attribute [local irreducible] enter anyAlt
set_option maxHeartbeats 16000000 in
theorem runs (c : Cf) (st : ST) (hw : Tw st) : Runs (cxL st c) Try.f3 [.one (.agg c.cells), .one (.a (.slc 0 3 0 st.len st.cap))] [roT st] yes := by
  obtain ⟨w1, w2, w3⟩ := hw
  repeat' (first | with_reducible exact trivial | with_reducible exact rfl | with_reducible exact Nat.le_refl _ | with_reducible exact (fun _ _ => rfl) | ((conv => whnf); first | (refine fun (x : BZ) => ?_) | (refine fun _ => ?_) | refine ⟨?_, ?_⟩ | exact trivial | exact Nat.le_refl _ | exact lex_q (by kernel_rfl) | exact lex_t (by kernel_rfl) | exact lex_h (by kernel_rfl) | fail))
  all_goals (try exact absurd (by assumption : (!true) = true) (by decide))
  all_goals (try exact absurd (by assumption : (0 : Int) < 0) (by decide))
  all_goals (try exact absurd (by assumption : (1099511627776 : Int) < 0) (by decide))
  all_goals (have hc0 : ¬ ¬ chkM c = 0 := by assumption)
  all_goals (have hc := cfm_of hc0)
  all_goals (obtain ⟨hcf, hcF⟩ := cfB_ok hc)
  all_goals (have hc2 : chkM ⟨bits .and .i64 c.rate 1048575, bits .and .i64 c.burst 16777215, c.more, c.beyond, c.couple, c.aware, c.shut⟩ = 0 := by rw [hcf]; exact chkM_0 hcF)
  all_goals (try exact absurd hc2 (by assumption))
  all_goals (try exact absurd rfl (by assumption))
  all_goals (try (have hi := (by assumption : (laB st c).inv x); dsimp only [laB] at hi))
  all_goals (try (obtain ⟨i1, i2, i3, i4, i5, i6, i7, i8, i9⟩ := hi))
  all_goals (try exact i4)
  all_goals (try omega)
  all_goals (try first | exact (by omega : x.i < st.N) | exact (by omega : 0 ≤ x.i))
  all_goals (try (have hs : 0 ≤ st.g x.i ∧ st.g x.i ≤ 1600 := by
                    rcases (by omega : (st.g x.i < 0 ∨ 1600 < st.g x.i) ∨ (0 ≤ st.g x.i ∧ st.g x.i ≤ 1600)) with h9 | h9
                    · exfalso
                      dsimp only at *
                      simp only [mt_eta, Int.toNat_natCast, Nat.zero_add, in_size h9] at *
                      omega
                    · exact h9))
  any_goals first
    | (refine enter_mk (la := laB st c) ⟨0, 0, 0, mt0 (cfB c) 0⟩ ?_ (by (repeat' (first | ((conv => whnf); first | refine ⟨?_, ?_⟩ | exact trivial | fail) | (dsimp only; done) | ((try dsimp only); first | with_reducible exact rfl | exact Nat.le_refl _ | with_reducible exact (fun _ _ => rfl)))); first | ((all_goals ((try dsimp only [laB] at *); (all_goals (try simp (disch := omega) only [w64', wu64', tdiv_pos, tmod_pos, Int.toNat_natCast, Nat.zero_add] at *)); (all_goals ((first | rfl | omega | exact congrArg Cf.rate hcf | exact congrArg Cf.burst hcf | exact (congrArg Cf.rate hcf).symm | exact (congrArg Cf.burst hcf).symm | exact bl_b.symm | exact bl_b | exact (bl_m hc).symm | exact bl_m hc))))); done) | fail))
    | (refine enter_mk (la := laB st c) ⟨x.i + 1, x.now + st.f x.i % 16777216, x.g, (x.m.in_ (x.now + st.f x.i % 16777216) (st.g x.i) (st.h x.i)).1⟩ ?_ (by (repeat' (first | ((conv => whnf); first | refine ⟨?_, ?_⟩ | exact trivial | fail) | (dsimp only; done) | ((try dsimp only); first | with_reducible exact rfl | exact Nat.le_refl _ | with_reducible exact (fun _ _ => rfl)))); first | ((all_goals ((try dsimp only [laB] at *); (all_goals (try simp (disch := omega) only [w64', wu64', tdiv_pos, tmod_pos, Int.toNat_natCast, Nat.zero_add] at *)); (all_goals ((first | rfl | omega | (rw [w64' (by omega) (by omega)]; omega) | (simp only [mt_eta, and_24]; simp (disch := omega) only [w64']; done)))))); done) | fail))
    | (refine enter_mk (la := laB st c) ⟨x.i + 1, x.now + st.f x.i % 16777216, x.g + 8 * st.g x.i, (x.m.in_ (x.now + st.f x.i % 16777216) (st.g x.i) (st.h x.i)).1⟩ ?_ (by (repeat' (first | ((conv => whnf); first | refine ⟨?_, ?_⟩ | exact trivial | fail) | (dsimp only; done) | ((try dsimp only); first | with_reducible exact rfl | exact Nat.le_refl _ | with_reducible exact (fun _ _ => rfl)))); first | ((all_goals ((try dsimp only [laB] at *); (all_goals (try simp (disch := omega) only [w64', wu64', tdiv_pos, tmod_pos, Int.toNat_natCast, Nat.zero_add] at *)); (all_goals ((first | rfl | omega | (rw [w64' (by omega) (by omega)]; omega) | (rw [w64' (n := 8 * st.g x.i) (by omega) (by omega), w64' (by omega) (by omega)]; done) | (simp only [mt_eta, and_24]; simp (disch := omega) only [w64']; done)))))); done) | fail))
    | fail
  all_goals (try dsimp only [laB] at *)
  all_goals (try simp only [mt_eta, and_24, Int.toNat_natCast, Nat.zero_add] at *)
  all_goals (try simp (disch := omega) only [w64'] at *)
  all_goals (try exact absurd trivial (by assumption))
  all_goals (try exact ⟨Nat.zero_le _, ⟨Int.le_refl _, by omega⟩, ⟨Int.le_refl _, by omega⟩, mt0_ok hcF ⟨by decide, by decide⟩, Int.le_refl _, rfl, rfl, rfl, by rw [show (mt0 (cfB c) 0).last = 0 from rfl, show (mt0 (cfB c) 0).p0 = (mt0 (cfB c) 0).burst * 1000000000 from rfl, Int.mul_zero]; omega⟩)
  all_goals (try (have hz : st.g x.i < 0 ∨ 1600 < st.g x.i := by omega
                  rw [in_size hz]
                  exact ⟨by omega, ⟨by omega, by omega⟩, ⟨by omega, by omega⟩, i4, by show x.m.last ≤ _; omega, i6, i7, i8, i9⟩))
  all_goals (try (obtain ⟨k1, k2, k3, k4, _⟩ := in_ok i4 (st.h x.i) (now := x.now + st.f x.i % 16777216) (size := st.g x.i) (by omega) (by omega) ⟨by omega, by omega⟩
                  obtain ⟨b1, b2⟩ := bd_step i4 (now := x.now + st.f x.i % 16777216) (by omega) (by omega) i9 (st.h x.i) (size := st.g x.i) ⟨by omega, by omega⟩))
  all_goals (try exact absurd k2 (by assumption))
  all_goals (try (have hBB : 0 ≤ (cfB c).burst ∧ (cfB c).burst ≤ 16777216 := by show 0 ≤ c.burst % 16777216 ∧ c.burst % 16777216 ≤ _; omega
                  have hRR : 0 ≤ (cfB c).rate ∧ (cfB c).rate ≤ 1048576 := by show 0 ≤ c.rate % 1048576 ∧ c.rate % 1048576 ≤ _; omega
                  rw [i6, i7] at b1 b2))
  all_goals
    have hq0 := k1.q0
    rw [k4.burst, i7] at hq0
    have hq1 := k1.q1
    rw [k4.beyond, i8] at hq1
    have e0 := bd_bits hcF.2.1 hq0
    have e1 := bd_bits hcF.2.2.2 hq1
    first
      | exact absurd (by assumption) e0.1
      | exact absurd (by assumption) e0.2
      | exact absurd (by assumption) e1.1
      | exact absurd (by assumption) e1.2
      | exact absurd (by assumption) (bd_test (by omega) hBB hRR (by omega) hq0.1 (b1 (by assumption)))
      | exact absurd (by assumption) (bd_test (by omega) hBB hRR (by omega) hq0.1 (b2 (by assumption)))
      | exact ⟨by omega, ⟨by omega, by omega⟩, ⟨by omega, by omega⟩, k1, Int.le_of_eq k3, k4.rate.trans i6, k4.burst.trans i7, k4.beyond.trans i8, by rw [k3, k4.rate, k4.burst, i6, i7]; exact b1 (by assumption)⟩
      | exact ⟨by omega, ⟨by omega, by omega⟩, ⟨by omega, by omega⟩, k1, Int.le_of_eq k3, k4.rate.trans i6, k4.burst.trans i7, k4.beyond.trans i8, by rw [k3, k4.rate, k4.burst, i6, i7]; exact b2 (by assumption)⟩

theorem own : ownKnob Try.prog.godebug = none := by kernel_rfl

set_option maxRecDepth 100000 in
theorem lifted (os : Os) (started : os.Started) (H : Type) (enc : TypeId × Value → H) :
    ReturnsInHanded {} Try.checked os 3 .any (Rows.meterBoundsSpec.pre6 enc Try.prog Try.f3 Rows.meterBoundsRow.domain false) (Rows.meterBoundsSpec.post enc Try.prog Try.f3 false true false false) := by
  refine returnsInHanded_of_change (C := Try.checked) own started (by kernel_rfl) Try.func3
    (ChangeSpec.witness6 (enc := enc) (C := Try.checked) false ⟨#[], #[.agg #[.int .i64 0, .int .i64 0, .int .i64 0, .int .i64 0, .bool false, .bool false, .bool false], .slice none 0 0], []⟩ 8 (by kernel_rfl) (by kernel_rfl) (by kernel_rfl) (by kernel_rfl)) ?_
  intro W base args ds gs before hval0 hW hcnd _
  have hval : ∀ (j : Nat) t v, Try.f3.params[j]? = some t → args[j]? = some v → Value.okWide Try.prog W .any base t v := hval0
  have hW' := hW
  obtain ⟨p, q, hA0, hV, rfl, hfz, hnd⟩ := hW
  have hA : DataW.TrodAll enc Try.prog W 0 (fun _ => true) true Try.f3.params.toList args.toList ds p := hA0
  rw [Try.params3] at hA hval
  obtain ⟨v0, vs0, d0, ds0, p0, q0, hargs0, rfl, rfl, h0, r0⟩ := trodAll_cons hA
  obtain ⟨v1, vs1, d1, ds1, p1, q1, hargs1, rfl, rfl, h1, r1⟩ := trodAll_cons r0
  obtain ⟨rfl, rfl, rfl⟩ := trodAll_nil r1
  obtain ⟨rfl, rfl⟩ := trodVars_none hV
  obtain rfl : args = #[v0, v1] := by cases args; simp_all
  obtain ⟨cs0, hv0, hl0, hc0⟩ := agg_open (d := 6) (row := [some .i64, some .i64, some .i64, some .i64, none, none, none]) (by kernel_rfl) (by kernel_rfl) (hval 0 23 v0 rfl rfl) h0
  have g0_0 := listIs_of hl0 hc0
  clear hl0 hc0
  obtain ⟨_, cs0_1, rfl, ⟨b0_0, rfl, w0_0⟩, g0_1⟩ := listIs_cons g0_0
  obtain ⟨_, cs0_2, rfl, ⟨b0_1, rfl, w0_1⟩, g0_2⟩ := listIs_cons g0_1
  obtain ⟨_, cs0_3, rfl, ⟨b0_2, rfl, w0_2⟩, g0_3⟩ := listIs_cons g0_2
  obtain ⟨_, cs0_4, rfl, ⟨b0_3, rfl, w0_3⟩, g0_4⟩ := listIs_cons g0_3
  obtain ⟨_, cs0_5, rfl, ⟨b0_4, rfl⟩, g0_5⟩ := listIs_cons g0_4
  obtain ⟨_, cs0_6, rfl, ⟨b0_5, rfl⟩, g0_6⟩ := listIs_cons g0_5
  obtain ⟨_, cs0_7, rfl, ⟨b0_6, rfl⟩, g0_7⟩ := listIs_cons g0_6
  obtain rfl := listIs_nil g0_7
  subst hv0
  obtain ⟨A1, n1, c1, s1⟩ := slice_open (d := 6) (row := [some .i64, some .i64, none]) Try.underlying24 (by kernel_rfl) (by kernel_rfl) (hval 1 24 v1 rfl rfl) h1
  refine Calls.mono (law_calls mixed Try.func3 (runs ⟨b0_0, b0_1, b0_2, b0_3, b0_4, b0_5, b0_6⟩ ⟨n1, c1, n1, fun r => intC W A1 (r * 3 + 0), fun r => intC W A1 (r * 3 + 1), fun r => boolC W A1 (r * 3 + 2)⟩ ⟨s1.le, Nat.le_refl _, s1.max⟩) (e := envOf [A1]) (rel_in1 s1.reg) (Nat.le_refl 1) (by rw [s1.val]; exact den_on.symm)) fun e W' ⟨he, hb⟩ => ?_
  subst he
  exact ⟨_, rfl, law_post hW' rfl rfl (by kernel_rfl) (by decide +kernel) rfl Try.underlying4 hb⟩

theorem over : Rows.meterBoundsRow.holds Try.pinned (OpenSpec.ofChange Rows.meterBoundsSpec) :=
  OpenClaim.holds_of_wide 3 Try.f3 rfl rfl rfl rfl rfl rfl rfl ⟨rfl, rfl, rfl, rfl, rfl⟩ rfl rfl rfl rfl rfl (by kernel_rfl) Try.func3 (by kernel_rfl)
    (of_decide_eq_true (by kernel_rfl)) (by unfold Func.isWrapper; first | (rw [if_pos (by decide +kernel)]; kernel_rfl) | (rw [if_neg (by decide +kernel)]; exact ⟨rfl, rfl⟩))
    (fun os started H enc _ => lifted os started H enc)

/-- MeterBounds -/
theorem proved : Rows.MeterBoundsSaid := over
#print axioms proved
end Go.Proofs.Ytdphgjnflaahbaa.meterBounds
