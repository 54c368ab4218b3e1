/-
  For every setup and every wait the law MeterFull answers true and leaves all memory as it was.
-/
import Derived.Test.YtdphgjnflaahbaaSx
import Derived.Test.YtdphgjnflaahbaaMWideNum
import Derived.Test.YtdphgjnflaahbaaMRefA
import Derived.Test.YtdphgjnflaahbaaMRefB
import Derived.Test.YtdphgjnflaahbaaMWideU
import Derived.Test.YtdphgjnflaahbaaMLen
import Derived.Test.YtdphgjnflaahbaaMDiv64
import Derived.Test.YtdphgjnflaahbaaMDivU
import Derived.Test.YtdphgjnflaahbaaMMulDiv
import Derived.Test.YtdphgjnflaahbaaMHeld
import Derived.Test.YtdphgjnflaahbaaMetA
import Derived.Test.YtdphgjnflaahbaaMetB
import Derived.Test.YtdphgjnflaahbaaMetC
import Derived.Test.YtdphgjnflaahbaaMetD
import Derived.Test.YtdphgjnflaahbaaRows
import Derived.WalkKit
import Derived.ProofKit
import Derived.OpenShut
namespace Go.Proofs.Ytdphgjnflaahbaa.meterFull
open Go.ChangeShapes Go.WideShapes Go.ChangeAt Go.RowKit Go.Sx
set_option linter.unusedVariables false
set_option linter.unusedSimpArgs false
set_option maxRecDepth 100000

structure FZ where
  i : Nat
  m : Mt
def cfF (c : Cf) : Cf := ⟨1 + c.rate % 1048576, c.burst % 1048576, c.more, c.beyond, c.couple, c.aware, c.shut⟩
theorem full_law {m : Mt} (h : MOk m) (ho : m.off = false) (hl : m.last ≤ 5) {R B : Int} (hr : m.rate = R) (hb : m.burst = B) (hR : 1 ≤ R) {now : Int} (h1 : 1048576 + 1000000000 * (B / R + 1) ≤ now) (h2 : now ≤ 1099511627776) :
    (m.in_ now 0 false).2.2 = 0 ∧ (m.in_ now 0 false).2.1 = 0 ∧ (m.in_ now 0 false).1.p0 = B * 1000000000 := by
  have hB : 0 ≤ B := hb ▸ h.b.1
  have hq : 0 ≤ B / R := Int.ediv_nonneg hB (by omega)
  have hRq : B ≤ R * (B / R + 1) := by
    have e := Int.mul_ediv_add_emod B R
    have l := Int.emod_lt_of_pos B (show 0 < R by omega)
    rw [Int.mul_add, Int.mul_one]; omega
  have hlast : m.last ≤ now := by omega
  have hf : m.burst * 1000000000 ≤ m.rate * (now - m.last) := by
    rw [hr, hb]
    have e1 : R * (1000000000 * (B / R + 1)) ≤ R * (now - m.last) := Int.mul_le_mul_of_nonneg_left (by omega) (by omega)
    have e2 : R * (1000000000 * (B / R + 1)) = R * (B / R + 1) * 1000000000 := by
      rw [Int.mul_comm 1000000000, Int.mul_assoc]
    rw [e2] at e1
    generalize R * (B / R + 1) = z at *
    generalize R * (now - m.last) = w at *
    omega
  have hp := p0_full h hlast hf
  obtain ⟨k1, k2, k3, k4, k5, k6, k7, k8, k9⟩ := in_ok h false hlast h2 (size := 0) ⟨Int.le_refl 0, by decide⟩
  have ht : (m.in_ now 0 false).2.1 = 0 := by
    unfold Mt.in_
    rw [if_neg (by decide), if_neg (by omega), if_neg (by omega), if_neg (by rw [ho]; decide), if_pos ⟨by have := (h.turn hlast h2).1.q0.1; omega, fun h => by cases h.1⟩]
  refine ⟨k2, ht, ?_⟩
  rw [k8 ht, hp, hb]; omega
theorem cfF_ok {c : Cf} (h : CfM c) : (⟨IntKind.i64.wrap (1 + bits .and .i64 c.rate 1048575), bits .and .i64 c.burst 1048575, c.more, c.beyond, c.couple, c.aware, c.shut⟩ : Cf) = cfF c ∧ CfM (cfF c) := by
  obtain ⟨h1, h2, h3, h4⟩ := h
  refine ⟨?_, ⟨?_, ?_, h3, h4⟩⟩
  · rw [and_20, and_20, w64' (by omega) (by omega)]; rfl
  · show 0 ≤ 1 + c.rate % 1048576 ∧ 1 + c.rate % 1048576 ≤ _; omega
  · show 0 ≤ c.burst % 1048576 ∧ c.burst % 1048576 ≤ _; omega
theorem fl_b {c : Cf} (h : CfM c) : IntKind.i64.wrap (bits .and .i64 c.burst 1048575 * 1000000000) = (mt0 (cfF c) 0).p0 := by
  rw [and_20, w64' (by omega) (by omega)]; rfl
theorem fl_m {c : Cf} (h : CfM c) : IntKind.i64.wrap (c.beyond * 1000000000) = (mt0 (cfF c) 0).p1 := by
  unfold CfM at h
  rw [w64' (by omega) (by omega)]; rfl
theorem full_key {c : Cf} (hc : CfM (cfF c)) {m : Mt} (i2 : MOk m) (i4 : m.last ≤ 5) (i5 : m.rate = (cfF c).rate) (i6 : m.burst = (cfF c).burst) (w : Int)
    (hl : ¬ 549755813888 < IntKind.i64.wrap (1048576 + IntKind.i64.wrap (1000000000 * IntKind.i64.wrap (IntKind.i64.wrap ((cfF c).burst.tdiv (cfF c).rate) + 1)))) :
    (m.opened.in_ (IntKind.i64.wrap (IntKind.i64.wrap (1048576 + IntKind.i64.wrap (1000000000 * IntKind.i64.wrap (IntKind.i64.wrap ((cfF c).burst.tdiv (cfF c).rate) + 1))) + bits .and .i64 w 65535)) 0 false).2.2 = 0 ∧
    (m.opened.in_ (IntKind.i64.wrap (IntKind.i64.wrap (1048576 + IntKind.i64.wrap (1000000000 * IntKind.i64.wrap (IntKind.i64.wrap ((cfF c).burst.tdiv (cfF c).rate) + 1))) + bits .and .i64 w 65535)) 0 false).2.1 = 0 ∧
    IntKind.i64.wrap ((m.opened.in_ (IntKind.i64.wrap (IntKind.i64.wrap (1048576 + IntKind.i64.wrap (1000000000 * IntKind.i64.wrap (IntKind.i64.wrap ((cfF c).burst.tdiv (cfF c).rate) + 1))) + bits .and .i64 w 65535)) 0 false).1.p0.tdiv 1000000000) = (cfF c).burst := by
  have hB : 0 ≤ (cfF c).burst ∧ (cfF c).burst < 1048576 := by show 0 ≤ c.burst % 1048576 ∧ c.burst % 1048576 < 1048576; omega
  have hR : 1 ≤ (cfF c).rate := by show 1 ≤ 1 + c.rate % 1048576; omega
  revert hl i5 i6
  generalize (cfF c).burst = B at hB ⊢
  generalize (cfF c).rate = R at hR ⊢
  intro i5 i6 hl
  have ht : B.tdiv R = B / R := Int.tdiv_eq_ediv_of_nonneg hB.1
  have hq0 : 0 ≤ B / R := Int.ediv_nonneg hB.1 (by omega)
  have hq1 : B / R ≤ B := Int.ediv_le_self R hB.1
  rw [ht] at hl ⊢
  generalize hq : B / R = q at hl hq0 hq1 ⊢
  rw [w64' (n := q) (by omega) (by omega), w64' (n := q + 1) (by omega) (by omega), w64' (n := 1000000000 * (q + 1)) (by omega) (by omega), w64' (n := 1048576 + 1000000000 * (q + 1)) (by omega) (by omega)] at hl ⊢
  rw [and_16, w64' (n := 1048576 + 1000000000 * (q + 1) + w % 65536) (by omega) (by omega)]
  obtain ⟨k1, k2, k3⟩ := full_law (m := m.opened) i2.open_ rfl i4 (R := R) (B := B) i5 i6 hR (now := 1048576 + 1000000000 * (q + 1) + w % 65536) (by rw [hq]; omega) (by omega)
  refine ⟨k1, k2, ?_⟩
  rw [k3, Int.tdiv_eq_ediv_of_nonneg (by omega), Int.mul_ediv_cancel _ (by decide), w64' (by omega) (by omega)]
abbrev laF (c : Cf) (w : Int) : LA where
  ι := FZ
  inv := fun x => x.i ≤ 5 ∧ MOk x.m ∧ x.m.last ≤ x.i ∧ x.m.last ≤ 5 ∧ x.m.rate = (cfF c).rate ∧ x.m.burst = (cfF c).burst
  T := fun x => ⟨86, [(1, int_ .i64 w), (2, .one (.a (.ptr 0 0))), (5, .one (.a (.ptr 1 0))), (7, int_ .i64 x.i)], [some ⟨true, .flat (cfF c).cells⟩, some ⟨true, .flat x.m.cells⟩]⟩
  μ := fun x => 5 - x.i
  ren := fun S => [S.ix 2, S.ix 5]
noncomputable def cxL (c : Cf) (w : Int) : Cx Try.prog := { ps := [hdS, chkMS, bitsS], es := [minS, minF, openS], is := [inl fn10 cxNew], n0 := 0, loops := fun i => match i with | 11 => some (.inv (laF c w)) | _ => none, cuts := fun _ => none }
attribute [local irreducible] enter anyAlt
set_option maxHeartbeats 16000000 in
theorem runs (c : Cf) (w : Int) : Runs (cxL c w) Try.f6 [.one (.agg c.cells), int_ .i64 w] [] yes := by
  repeat' (first | with_reducible exact trivial | with_reducible exact rfl | with_reducible exact Nat.le_refl _ | with_reducible exact (fun _ _ => rfl) | ((conv => whnf); first | (refine fun (x : FZ) => ?_) | (refine fun _ => ?_) | refine ⟨?_, ?_⟩ | exact trivial | exact Nat.le_refl _ | exact lex_q (by kernel_rfl) | exact lex_t (by kernel_rfl) | exact lex_h (by kernel_rfl) | fail))
  all_goals (try exact absurd (by assumption : (!true) = true) (by decide))
  all_goals (try exact absurd (by assumption : (0 : Int) < 0) (by decide))
  all_goals (try exact absurd (by assumption : (1099511627776 : Int) < 0) (by decide))
  all_goals (have hc0 : ¬ ¬ chkM c = 0 := by assumption)
  all_goals (have hc := cfm_of hc0)
  all_goals (obtain ⟨hcf, hcF⟩ := cfF_ok hc)
  all_goals (have hc2 : chkM ⟨IntKind.i64.wrap (1 + bits .and .i64 c.rate 1048575), bits .and .i64 c.burst 1048575, c.more, c.beyond, c.couple, c.aware, c.shut⟩ = 0 := by rw [hcf]; exact chkM_0 hcF)
  all_goals (try exact absurd hc2 (by assumption))
  all_goals (try (have hi := (by assumption : (laF c w).inv x); dsimp only [laF] at hi))
  all_goals (try (obtain ⟨i1, i2, i3, i4, i5, i6⟩ := hi))
  all_goals (try exact i2)
  all_goals (try exact i2.open_)
  any_goals first
    | (refine enter_mk (la := laF c w) ⟨0, mt0 (cfF c) 0⟩ ?_ (by (repeat' (first | ((conv => whnf); first | refine ⟨?_, ?_⟩ | exact trivial | fail) | (dsimp only; done) | ((try dsimp only); first | with_reducible exact rfl | exact Nat.le_refl _ | with_reducible exact (fun _ _ => rfl)))); first | ((all_goals ((try dsimp only [laF] at *); (all_goals (try simp (disch := omega) only [w64', wu64', tdiv_pos, tmod_pos, Int.toNat_natCast, Nat.zero_add] at *)); (all_goals ((first | rfl | omega | exact congrArg Cf.rate hcf | exact congrArg Cf.burst hcf | exact (congrArg Cf.rate hcf).symm | exact (congrArg Cf.burst hcf).symm | exact (fl_b hc).symm | exact fl_b hc | exact (fl_m hc).symm | exact fl_m hc))))); done) | fail))
    | (refine enter_mk (la := laF c w) ⟨x.i + 1, (x.m.in_ x.i 1500 false).1⟩ ?_ (by (repeat' (first | ((conv => whnf); first | refine ⟨?_, ?_⟩ | exact trivial | fail) | (dsimp only; done) | ((try dsimp only); first | with_reducible exact rfl | exact Nat.le_refl _ | with_reducible exact (fun _ _ => rfl)))); first | ((all_goals ((try dsimp only [laF] at *); (all_goals (try simp (disch := omega) only [w64', wu64', tdiv_pos, tmod_pos, Int.toNat_natCast, Nat.zero_add] at *)); (all_goals ((first | rfl | omega | (rw [w64' (by omega) (by omega)]; omega)))))); done) | fail))
    | fail
  all_goals (try exact absurd rfl (by assumption))
  all_goals first
    | exact ⟨Nat.zero_le 5, mt0_ok hcF ⟨by decide, by decide⟩, Int.le_refl _, show (0 : Int) ≤ 5 by decide, rfl, rfl⟩
    | (have h9 : (cfF c).rate = 0 := by assumption
       have : 1 ≤ (cfF c).rate := by show 1 ≤ 1 + c.rate % 1048576; omega
       omega)
    | (have hx : (x.i : Int) < 5 := by assumption
       obtain ⟨k1, k2, k3, k4, _⟩ := in_ok i2 false (now := x.i) (size := 1500) i3 (by omega) ⟨by decide, by decide⟩
       first
         | exact absurd k2 (by assumption)
         | (refine ⟨by show x.i + 1 ≤ 5; omega, k1, ?_, ?_, k4.rate.trans i5, k4.burst.trans i6⟩
            · show (x.m.in_ x.i 1500 false).1.last ≤ ((x.i + 1 : Nat) : Int); omega
            · show (x.m.in_ x.i 1500 false).1.last ≤ 5; omega))
    | (obtain ⟨k1, k2, k3⟩ := full_key hcF i2 i4 i5 i6 w (by assumption)
       first
         | exact absurd k1 (by assumption)
         | exact absurd k2 (by assumption)
         | exact (decide_eq_true k3).symm)

theorem own : ownKnob Try.prog.godebug = none := by kernel_rfl

set_option maxRecDepth 100000 in
theorem lifted (os : Os) (started : os.Started) (H : Type) (enc : TypeId × Value → H) :
    ReturnsInHanded {} Try.checked os 6 .any (Rows.meterFullSpec.pre6 enc Try.prog Try.f6 Rows.meterFullRow.domain false) (Rows.meterFullSpec.post enc Try.prog Try.f6 false true false false) := by
  refine returnsInHanded_of_change (C := Try.checked) own started (by kernel_rfl) Try.func6
    (ChangeSpec.witness6 (enc := enc) (C := Try.checked) false ⟨#[], #[.agg #[.int .i64 0, .int .i64 0, .int .i64 0, .int .i64 0, .bool false, .bool false, .bool false], .int .i64 0], []⟩ 8 (by kernel_rfl) (by kernel_rfl) (by kernel_rfl) (by kernel_rfl)) ?_
  intro W base args ds gs before hval0 hW hcnd _
  have hval : ∀ (j : Nat) t v, Try.f6.params[j]? = some t → args[j]? = some v → Value.okWide Try.prog W .any base t v := hval0
  have hW' := hW
  obtain ⟨p, q, hA0, hV, rfl, hfz, hnd⟩ := hW
  have hA : DataW.TrodAll enc Try.prog W 0 (fun _ => true) true Try.f6.params.toList args.toList ds p := hA0
  rw [Try.params6] at hA hval
  obtain ⟨v0, vs0, d0, ds0, p0, q0, hargs0, rfl, rfl, h0, r0⟩ := trodAll_cons hA
  obtain ⟨v1, vs1, d1, ds1, p1, q1, hargs1, rfl, rfl, h1, r1⟩ := trodAll_cons r0
  obtain ⟨rfl, rfl, rfl⟩ := trodAll_nil r1
  obtain ⟨rfl, rfl⟩ := trodVars_none hV
  obtain rfl : args = #[v0, v1] := by cases args; simp_all
  obtain ⟨cs0, hv0, hl0, hc0⟩ := agg_open (d := 6) (row := [some .i64, some .i64, some .i64, some .i64, none, none, none]) (by kernel_rfl) (by kernel_rfl) (hval 0 23 v0 rfl rfl) h0
  have g0_0 := listIs_of hl0 hc0
  clear hl0 hc0
  obtain ⟨_, cs0_1, rfl, ⟨b0_0, rfl, w0_0⟩, g0_1⟩ := listIs_cons g0_0
  obtain ⟨_, cs0_2, rfl, ⟨b0_1, rfl, w0_1⟩, g0_2⟩ := listIs_cons g0_1
  obtain ⟨_, cs0_3, rfl, ⟨b0_2, rfl, w0_2⟩, g0_3⟩ := listIs_cons g0_2
  obtain ⟨_, cs0_4, rfl, ⟨b0_3, rfl, w0_3⟩, g0_4⟩ := listIs_cons g0_3
  obtain ⟨_, cs0_5, rfl, ⟨b0_4, rfl⟩, g0_5⟩ := listIs_cons g0_4
  obtain ⟨_, cs0_6, rfl, ⟨b0_5, rfl⟩, g0_6⟩ := listIs_cons g0_5
  obtain ⟨_, cs0_7, rfl, ⟨b0_6, rfl⟩, g0_7⟩ := listIs_cons g0_6
  obtain rfl := listIs_nil g0_7
  subst hv0
  obtain ⟨a1, rfl, rfl, rfl, w1⟩ := open_int Try.underlying3 (hval 1 3 v1 rfl rfl) h1
  refine Calls.mono (law_calls mixed Try.func6 (runs ⟨b0_0, b0_1, b0_2, b0_3, b0_4, b0_5, b0_6⟩ a1) (rel_nil (fun _ => none) W) (Nat.le_refl 0) rfl) fun e W' ⟨he, hb⟩ => ?_
  subst he
  exact ⟨_, rfl, law_post hW' rfl rfl (by kernel_rfl) (by decide +kernel) rfl Try.underlying4 hb⟩

theorem over : Rows.meterFullRow.holds Try.pinned (OpenSpec.ofChange Rows.meterFullSpec) :=
  OpenClaim.holds_of_wide 6 Try.f6 rfl rfl rfl rfl rfl rfl rfl ⟨rfl, rfl, rfl, rfl, rfl⟩ rfl rfl rfl rfl rfl (by kernel_rfl) Try.func6 (by kernel_rfl)
    (of_decide_eq_true (by kernel_rfl)) (by unfold Func.isWrapper; first | (rw [if_pos (by decide +kernel)]; kernel_rfl) | (rw [if_neg (by decide +kernel)]; exact ⟨rfl, rfl⟩))
    (fun os started H enc _ => lifted os started H enc)

/-- MeterFull -/
theorem proved : Rows.MeterFullSaid := over
#print axioms proved
end Go.Proofs.Ytdphgjnflaahbaa.meterFull
