/-
  For every setup and all frames the law MeterLate answers true and leaves all memory as it was.
-/
import Derived.Test.YtdphgjnflaahbaaSx
import Derived.Test.YtdphgjnflaahbaaMWideNum
import Derived.Test.YtdphgjnflaahbaaMRefA
import Derived.Test.YtdphgjnflaahbaaMRefB
import Derived.Test.YtdphgjnflaahbaaMWideU
import Derived.Test.YtdphgjnflaahbaaMLen
import Derived.Test.YtdphgjnflaahbaaMDiv64
import Derived.Test.YtdphgjnflaahbaaMDivU
import Derived.Test.YtdphgjnflaahbaaMMulDiv
import Derived.Test.YtdphgjnflaahbaaMHeld
import Derived.Test.YtdphgjnflaahbaaMetA
import Derived.Test.YtdphgjnflaahbaaMetB
import Derived.Test.YtdphgjnflaahbaaMetC
import Derived.Test.YtdphgjnflaahbaaMetD
import Derived.Test.YtdphgjnflaahbaaRows
import Derived.WalkKit
import Derived.ProofKit
import Derived.OpenShut
namespace Go.Proofs.Ytdphgjnflaahbaa.meterLate
open Go.ChangeShapes Go.WideShapes Go.ChangeAt Go.RowKit Go.Sx
set_option linter.unusedVariables false
set_option linter.unusedSimpArgs false
set_option maxRecDepth 100000

theorem den_tw {a b c d : Int} {e f g : Bool} {A : Option Addr} {n cap : Nat} {w : Int} : #[SV.den (envOf [A]) (.one (.agg (Cf.cells ⟨a, b, c, d, e, f, g⟩))), SV.den (envOf [A]) (.one (.a (.slc 0 3 0 n cap))), SV.den (envOf [A]) (int_ .i64 w)] = #[.agg #[.int .i64 a, .int .i64 b, .int .i64 c, .int .i64 d, .bool e, .bool f, .bool g], .slice A n cap, .int .i64 w] := by
  show #[Value.agg _, SA.den (envOf [A]) (.slc 0 3 0 n cap), _] = _
  rw [den_slc (A := A) rfl]; rfl
theorem in_big {m : Mt} {n : Int} : m.in_ n 1601 false = (m, 2, 1) := in_size (.inr (by decide))
theorem in_late1 {m : Mt} {n : Int} (h : n < m.last) : m.in_ n 1 false = (m, 2, 31) := in_late ⟨by decide, by decide⟩ h
structure LZ where
  i : Nat
  now : Int
  m : Mt
abbrev laT (st : ST) (w : Int) : LA where
  ι := LZ
  inv := fun x => x.i ≤ st.len ∧ (1000 ≤ x.now ∧ x.now ≤ 1000 + 1048575 * x.i) ∧ MOk x.m ∧ x.m.last = x.now
  T := fun x => ⟨158, [(2, int_ .i64 w), (7, .one (.a (.ptr 1 0))), (9, .one (.a (.ptr 2 0))), (11, int_ .i64 x.now), (52, .one (.a (.slc 0 3 0 st.len st.cap))), (53, int_ .i64 st.len), (54, int_ .i64 x.i)], [roT st, some ⟨true, .flat x.m.cells⟩, some ⟨true, .flat x.m.cells⟩]⟩
  μ := fun x => st.len - x.i
  ren := fun S => [0, S.ix 7, S.ix 9]
noncomputable def cxL (st : ST) (w : Int) : Cx Try.prog := { ps := [hdS, chkMS, bitsS], es := [minS, minF], is := [inl fn10 cxNew], n0 := 1, loops := fun i => match i with | 11 => some (.inv (laT st w)) | _ => none, cuts := fun _ => none }
attribute [local irreducible] enter anyAlt
set_option maxHeartbeats 16000000 in
theorem runs (c : Cf) (st : ST) (w : Int) (hw : Tw st) : Runs (cxL st w) Try.f5 [.one (.agg c.cells), .one (.a (.slc 0 3 0 st.len st.cap)), int_ .i64 w] [roT st] yes := by
  obtain ⟨w1, w2, w3⟩ := hw
  repeat' (first | with_reducible exact trivial | with_reducible exact rfl | with_reducible exact Nat.le_refl _ | with_reducible exact (fun _ _ => rfl) | ((conv => whnf); first | (refine fun (x : LZ) => ?_) | (refine fun _ => ?_) | refine ⟨?_, ?_⟩ | exact trivial | exact Nat.le_refl _ | exact lex_q (by kernel_rfl) | exact lex_t (by kernel_rfl) | exact lex_h (by kernel_rfl) | fail))
  all_goals (try exact absurd (by assumption : (!true) = true) (by decide))
  all_goals (try exact absurd (by assumption : (1000 : Int) < 0) (by decide))
  all_goals (try exact absurd (by assumption : (1099511627776 : Int) < 1000) (by decide))
  all_goals (have hc0 : ¬ ¬ chkM c = 0 := by assumption)
  all_goals (have hc := cfm_of hc0)
  all_goals (try exact absurd (chkM_0 hc) (by assumption))
  all_goals (try exact absurd rfl (by assumption))
  all_goals (try (have hi := (by assumption : (laT st w).inv x); dsimp only [laT] at hi))
  all_goals (try (obtain ⟨i1, i2, i3, i4⟩ := hi
                  have e1 : x.m.in_ (IntKind.i64.wrap (IntKind.i64.wrap (IntKind.i64.wrap (IntKind.i64.wrap (x.now + bits .and .i64 (st.f x.i) 1048575) - 1) - bits .and .i64 w 255) - bits .and .i64 (st.f x.i) 1048575)) 1 false = (x.m, 2, 31) := by
                    simp only [and_20, and_8]
                    simp (disch := omega) only [w64']
                    exact in_late1 (by omega)
                  have m1 : MOk (x.m.in_ (IntKind.i64.wrap (IntKind.i64.wrap (IntKind.i64.wrap (IntKind.i64.wrap (x.now + bits .and .i64 (st.f x.i) 1048575) - 1) - bits .and .i64 w 255) - bits .and .i64 (st.f x.i) 1048575)) 1 false).1 := by rw [e1]; exact i3
                  have m2 : MOk ((x.m.in_ (IntKind.i64.wrap (IntKind.i64.wrap (IntKind.i64.wrap (IntKind.i64.wrap (x.now + bits .and .i64 (st.f x.i) 1048575) - 1) - bits .and .i64 w 255) - bits .and .i64 (st.f x.i) 1048575)) 1 false).1.in_ (IntKind.i64.wrap (x.now + bits .and .i64 (st.f x.i) 1048575)) 1601 false).1 := by rw [e1, in_big]; exact i3))
  all_goals (try exact i3)
  all_goals (try omega)
  all_goals (try first | exact (by omega : x.i < st.N) | exact (by omega : 0 ≤ x.i))
  any_goals first
    | (refine enter_mk (la := laT st w) ⟨0, 1000, mt0 c 1000⟩ ?_ (by (repeat' (first | ((conv => whnf); first | refine ⟨?_, ?_⟩ | exact trivial | fail) | (dsimp only; done) | ((try dsimp only); first | with_reducible exact rfl | exact Nat.le_refl _ | with_reducible exact (fun _ _ => rfl)))); first | ((all_goals ((try dsimp only [laT] at *); (all_goals (try simp (disch := omega) only [w64', wu64', tdiv_pos, tmod_pos, Int.toNat_natCast, Nat.zero_add] at *)); (all_goals ((first | rfl | omega | (unfold CfM at hc; show c.burst * 1000000000 = _; rw [w64' (by omega) (by omega)]; done) | (unfold CfM at hc; show c.beyond * 1000000000 = _; rw [w64' (by omega) (by omega)]; done)))))); done) | fail))
    | (refine enter_mk (la := laT st w) ⟨x.i + 1, x.now + st.f x.i % 1048576, (x.m.in_ (x.now + st.f x.i % 1048576) (st.g x.i % 1024) (st.h x.i)).1⟩ ?_ (by (repeat' (first | ((conv => whnf); first | refine ⟨?_, ?_⟩ | exact trivial | fail) | (dsimp only; done) | ((try dsimp only); first | with_reducible exact rfl | exact Nat.le_refl _ | with_reducible exact (fun _ _ => rfl)))); first | ((all_goals ((try dsimp only [laT] at *); (all_goals (try simp (disch := omega) only [w64', wu64', tdiv_pos, tmod_pos, Int.toNat_natCast, Nat.zero_add] at *)); (all_goals ((first | rfl | omega | (rw [w64' (by omega) (by omega)]; omega) | (simp only [mt_eta, and_20, and_8, and_10]; simp (disch := omega) only [w64', in_late1, in_big]; done)))))); done) | fail))
    | fail
  all_goals (try dsimp only [laT] at *)
  all_goals (try simp only [mt_eta, and_20, and_8, and_10, Int.toNat_natCast, Nat.zero_add] at *)
  all_goals (try simp (disch := omega) only [w64'] at *)
  all_goals (try simp (disch := omega) only [in_late1, in_big, mt_eta] at *)
  all_goals (try exact i3)
  all_goals (try omega)
  all_goals (try exact absurd trivial (by assumption))
  all_goals first
    | exact ⟨Nat.zero_le _, ⟨Int.le_refl _, by omega⟩, mt0_ok hc ⟨by decide, by decide⟩, rfl⟩
    | (obtain ⟨k1, k2, k3, _⟩ := in_ok i3 (st.h x.i) (now := x.now + st.f x.i % 1048576) (size := st.g x.i % 1024) (by omega) (by omega) ⟨by omega, by omega⟩
       first
         | exact absurd k2 (by assumption)
         | exact ⟨by omega, ⟨by omega, by omega⟩, k1, k3⟩)
    | (simp; done)

theorem own : ownKnob Try.prog.godebug = none := by kernel_rfl

set_option maxRecDepth 100000 in
theorem lifted (os : Os) (started : os.Started) (H : Type) (enc : TypeId × Value → H) :
    ReturnsInHanded {} Try.checked os 5 .any (Rows.meterLateSpec.pre6 enc Try.prog Try.f5 Rows.meterLateRow.domain false) (Rows.meterLateSpec.post enc Try.prog Try.f5 false true false false) := by
  refine returnsInHanded_of_change (C := Try.checked) own started (by kernel_rfl) Try.func5
    (ChangeSpec.witness6 (enc := enc) (C := Try.checked) false ⟨#[], #[.agg #[.int .i64 0, .int .i64 0, .int .i64 0, .int .i64 0, .bool false, .bool false, .bool false], .slice none 0 0, .int .i64 0], []⟩ 8 (by kernel_rfl) (by kernel_rfl) (by kernel_rfl) (by kernel_rfl)) ?_
  intro W base args ds gs before hval0 hW hcnd _
  have hval : ∀ (j : Nat) t v, Try.f5.params[j]? = some t → args[j]? = some v → Value.okWide Try.prog W .any base t v := hval0
  have hW' := hW
  obtain ⟨p, q, hA0, hV, rfl, hfz, hnd⟩ := hW
  have hA : DataW.TrodAll enc Try.prog W 0 (fun _ => true) true Try.f5.params.toList args.toList ds p := hA0
  rw [Try.params5] at hA hval
  obtain ⟨v0, vs0, d0, ds0, p0, q0, hargs0, rfl, rfl, h0, r0⟩ := trodAll_cons hA
  obtain ⟨v1, vs1, d1, ds1, p1, q1, hargs1, rfl, rfl, h1, r1⟩ := trodAll_cons r0
  obtain ⟨v2, vs2, d2, ds2, p2, q2, hargs2, rfl, rfl, h2, r2⟩ := trodAll_cons r1
  obtain ⟨rfl, rfl, rfl⟩ := trodAll_nil r2
  obtain ⟨rfl, rfl⟩ := trodVars_none hV
  obtain rfl : args = #[v0, v1, v2] := by cases args; simp_all
  obtain ⟨cs0, hv0, hl0, hc0⟩ := agg_open (d := 6) (row := [some .i64, some .i64, some .i64, some .i64, none, none, none]) (by kernel_rfl) (by kernel_rfl) (hval 0 23 v0 rfl rfl) h0
  have g0_0 := listIs_of hl0 hc0
  clear hl0 hc0
  obtain ⟨_, cs0_1, rfl, ⟨b0_0, rfl, w0_0⟩, g0_1⟩ := listIs_cons g0_0
  obtain ⟨_, cs0_2, rfl, ⟨b0_1, rfl, w0_1⟩, g0_2⟩ := listIs_cons g0_1
  obtain ⟨_, cs0_3, rfl, ⟨b0_2, rfl, w0_2⟩, g0_3⟩ := listIs_cons g0_2
  obtain ⟨_, cs0_4, rfl, ⟨b0_3, rfl, w0_3⟩, g0_4⟩ := listIs_cons g0_3
  obtain ⟨_, cs0_5, rfl, ⟨b0_4, rfl⟩, g0_5⟩ := listIs_cons g0_4
  obtain ⟨_, cs0_6, rfl, ⟨b0_5, rfl⟩, g0_6⟩ := listIs_cons g0_5
  obtain ⟨_, cs0_7, rfl, ⟨b0_6, rfl⟩, g0_7⟩ := listIs_cons g0_6
  obtain rfl := listIs_nil g0_7
  subst hv0
  obtain ⟨A1, n1, c1, s1⟩ := slice_open (d := 6) (row := [some .i64, some .i64, none]) Try.underlying24 (by kernel_rfl) (by kernel_rfl) (hval 1 24 v1 rfl rfl) h1
  obtain ⟨a2, rfl, rfl, rfl, w2⟩ := open_int Try.underlying3 (hval 2 3 v2 rfl rfl) h2
  refine Calls.mono (law_calls mixed Try.func5 (runs ⟨b0_0, b0_1, b0_2, b0_3, b0_4, b0_5, b0_6⟩ ⟨n1, c1, n1, fun r => intC W A1 (r * 3 + 0), fun r => intC W A1 (r * 3 + 1), fun r => boolC W A1 (r * 3 + 2)⟩ a2 ⟨s1.le, Nat.le_refl _, s1.max⟩) (e := envOf [A1]) (rel_in1 s1.reg) (Nat.le_refl 1) (by rw [s1.val]; exact den_tw.symm)) fun e W' ⟨he, hb⟩ => ?_
  subst he
  exact ⟨_, rfl, law_post hW' rfl rfl (by kernel_rfl) (by decide +kernel) rfl Try.underlying4 hb⟩

theorem over : Rows.meterLateRow.holds Try.pinned (OpenSpec.ofChange Rows.meterLateSpec) :=
  OpenClaim.holds_of_wide 5 Try.f5 rfl rfl rfl rfl rfl rfl rfl ⟨rfl, rfl, rfl, rfl, rfl⟩ rfl rfl rfl rfl rfl (by kernel_rfl) Try.func5 (by kernel_rfl)
    (of_decide_eq_true (by kernel_rfl)) (by unfold Func.isWrapper; first | (rw [if_pos (by decide +kernel)]; kernel_rfl) | (rw [if_neg (by decide +kernel)]; exact ⟨rfl, rfl⟩))
    (fun os started H enc _ => lifted os started H enc)

/-- MeterLate -/
theorem proved : Rows.MeterLateSaid := over
#print axioms proved
end Go.Proofs.Ytdphgjnflaahbaa.meterLate
