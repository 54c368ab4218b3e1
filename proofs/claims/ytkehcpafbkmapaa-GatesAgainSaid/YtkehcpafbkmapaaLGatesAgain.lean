/-
  For every list of gates and all numbers the law GatesAgain answers true and leaves all memory as it was.
-/
import Derived.Test.YtkehcpafbkmapaaSx
import Derived.Test.YtkehcpafbkmapaaGatesNum
import Derived.Test.YtkehcpafbkmapaaGatesA
import Derived.Test.YtkehcpafbkmapaaGatesB
import Derived.Test.YtkehcpafbkmapaaGatesH
import Derived.Test.YtkehcpafbkmapaaGatesC
import Derived.Test.YtkehcpafbkmapaaRows
import Derived.WalkKit
import Derived.ProofKit
import Derived.OpenShut
namespace Go.Proofs.Ytkehcpafbkmapaa.gatesAgain
open Go.ChangeShapes Go.WideShapes Go.ChangeAt Go.RowKit Go.Sx
set_option linter.unusedVariables false
set_option linter.unusedSimpArgs false
set_option maxRecDepth 100000

attribute [local irreducible] enter anyAlt Gw
theorem bit_of {l : GL} {a k : Int} (h : chk l = 0) (ha : inR a) (hk : 0 ≤ k ∧ k ≤ 7) : bits .and .i64 ((stateV l a).fdiv (2 ^ (if k.toNat ≤ 64 then k.toNat else 64))) 1 = gAt l k (phV l a) := by
  have ok := chk_ok h
  have c1 := ok.c1
  have p0 := Int.emod_nonneg (a - l.base) (show l.cyc ≠ 0 by omega)
  have p1 := Int.emod_lt_of_pos (a - l.base) (show 0 < l.cyc by omega)
  obtain ⟨s1, s2, s3, s4⟩ := ok.slot (p := phV l a) ⟨p0, p1⟩
  unfold stateV
  rw [if_pos ⟨h, ha⟩, gbit (ok.op _ s1) hk]
  unfold gAt
  rw [Int.emod_eq_of_lt (a := phV l a) p0 p1]
theorem g_ph {l : GL} {a d k : Int} : gAt l k (phV l (a + d)) = gAt l k (phV l a + d) := by
  apply gAt_mod
  unfold phV
  rw [Int.emod_emod, Int.emod_add_emod, show a + d - l.base = a - l.base + d by omega]
theorem g_01 {l : GL} {q k : Int} : gAt l k q = 0 ∨ gAt l k q = 1 := by
  unfold gAt
  generalize l.op _ / _ = z
  omega
theorem again {l : GL} {a k : Int} (h : chk l = 0) (ha : 0 ≤ a ∧ a < 4294967296) (hk : 0 ≤ k ∧ k ≤ 7) :
    stateV l (a + l.cyc) = stateV l a ∧
    (0 ≤ leftV l a k ∧ (leftV l a k < 2 * l.cyc ∨ leftV l a k = 2147483648) ∧ (0 < leftV l a k ↔ gAt l k (phV l a) = 1) ∧ (0 < leftV l a k → leftV l a k < 2 * l.cyc → gAt l k (phV l (a + leftV l a k - 1)) = 1 ∧ gAt l k (phV l (a + leftV l a k)) = 0)) ∧
    ((gAt l k (phV l a) = 1 → nextB l a k = true ∧ nextV l a k = 0) ∧
     (gAt l k (phV l a) = 0 → nextB l a k = false → leftV l (a + l.cyc - 1) k = 0) ∧
     (gAt l k (phV l a) = 0 → nextB l a k = true → 0 < nextV l a k ∧ nextV l a k < 2 * l.cyc ∧ gAt l k (phV l (a + nextV l a k)) = 1 ∧ gAt l k (phV l (a + nextV l a k - 1)) = 0)) := by
  have ok := chk_ok h
  have c1 := ok.c1
  have c2 := ok.c2
  have hr : inR a := by unfold inR; omega
  have hr2 : inR (a + l.cyc) := by unfold inR; omega
  have hr3 : inR (a + l.cyc - 1) := by unfold inR; omega
  have i1 := stay_is (l := l) (p := phV l a) (k := k) (o := 1) (by omega)
  have i0 := stay_is (l := l) (p := phV l a) (k := k) (o := 0) (by omega)
  have i2 := stay_is (l := l) (p := phV l (a + l.cyc - 1)) (k := k) (o := 1) (by omega)
  have e1 : leftV l a k = if stayV l (phV l a) k 1 = 2 * l.cyc then 2147483648 else stayV l (phV l a) k 1 := by unfold leftV; rw [if_pos ⟨h, hr, hk⟩]
  have e2 : leftV l (a + l.cyc - 1) k = if stayV l (phV l (a + l.cyc - 1)) k 1 = 2 * l.cyc then 2147483648 else stayV l (phV l (a + l.cyc - 1)) k 1 := by unfold leftV; rw [if_pos ⟨h, hr3, hk⟩]
  have e3 : nextV l a k = if stayV l (phV l a) k 0 ≠ 2 * l.cyc then stayV l (phV l a) k 0 else 0 := by
    unfold nextV
    by_cases h9 : stayV l (phV l a) k 0 ≠ 2 * l.cyc
    · rw [if_pos ⟨h, hr, hk, h9⟩, if_pos h9]
    · rw [if_neg (fun h8 => h9 h8.2.2.2), if_neg h9]
  have e4 : nextB l a k = decide (stayV l (phV l a) k 0 ≠ 2 * l.cyc) := by
    unfold nextB
    rw [decide_eq_decide]
    exact ⟨fun h8 => h8.2.2.2, fun h8 => ⟨h, hr, hk, h8⟩⟩
  rw [e1, e2, e3, e4]
  generalize stayV l (phV l a) k 1 = s at *
  generalize stayV l (phV l a) k 0 = t at *
  generalize stayV l (phV l (a + l.cyc - 1)) k 1 = u at *
  have g1 : ∀ d, gAt l k (phV l (a + d)) = gAt l k (phV l a + d) := fun d => g_ph
  have g2 : ∀ d, gAt l k (phV l (a + d - 1)) = gAt l k (phV l a + (d - 1)) := fun d => by rw [← g1, show a + d - 1 = a + (d - 1) by omega]
  obtain ⟨s1, s2, s3, s4⟩ := i1
  obtain ⟨t1, t2, t3, t4⟩ := i0
  obtain ⟨u1, u2, u3, u4⟩ := i2
  refine ⟨?_, ⟨?_, ?_, ⟨fun h1 => ?_, fun h1 => ?_⟩, fun h1 h2 => ?_⟩, fun h1 => ?_, fun h1 h2 => ?_, fun h1 h2 => ?_⟩
  · unfold stateV
    rw [if_pos ⟨h, hr2⟩, if_pos ⟨h, hr⟩]
    unfold phV
    rw [show a + l.cyc - l.base = a - l.base + l.cyc by omega, Int.add_emod_right]
  · split <;> omega
  · split
    · exact .inr rfl
    · left; omega
  · have := s3 0 (by omega) (by split at h1 <;> omega)
    rwa [Int.add_zero] at this
  · have : s ≠ 0 := fun h9 => by
      have := s4 (by omega)
      rw [h9, Int.add_zero] at this
      exact this h1
    split <;> omega
  · have h3 : ¬ s = 2 * l.cyc := fun h9 => by rw [if_pos h9] at h2; omega
    rw [if_neg h3] at *
    refine ⟨by rw [g2]; exact s3 _ (by omega) (by omega), ?_⟩
    rw [g1]
    rcases g_01 (l := l) (q := phV l a + s) (k := k) with h4 | h4
    · exact h4
    · exact absurd h4 (s4 (by omega))
  · have : t = 0 := by
      rcases Int.lt_or_le 0 t with h9 | h9
      · have := t3 0 (by omega) h9
        rw [Int.add_zero] at this; omega
      · omega
    subst this
    exact ⟨decide_eq_true (by omega), by split <;> rfl⟩
  · have h3 : t = 2 * l.cyc := by have := of_decide_eq_false h2; omega
    have h4 := t3 (l.cyc - 1) (by omega) (by omega)
    have h5 : u = 0 := by
      rcases Int.lt_or_le 0 u with h9 | h9
      · have := u3 0 (by omega) h9
        rw [Int.add_zero, g2] at this; omega
      · omega
    rw [if_neg (by omega)]; exact h5
  · have h3 : t ≠ 2 * l.cyc := of_decide_eq_true h2
    have h4 : t ≠ 0 := fun h9 => by
      have := t4 (by omega)
      rw [h9, Int.add_zero] at this
      exact this h1
    rw [if_pos h3, g1, g2]
    refine ⟨by omega, by omega, ?_, t3 _ (by omega) (by omega)⟩
    rcases g_01 (l := l) (q := phV l a + t) (k := k) with h5 | h5
    · exact absurd h5 (t4 (by omega))
    · exact h5
theorem next_bd {l : GL} {a k : Int} (h : 0 ≤ l.cyc) : 0 ≤ nextV l a k ∧ nextV l a k ≤ 2 * l.cyc := by
  have i0 := stay_is (l := l) (p := phV l a) (k := k) (o := 0) h
  have := i0.lo
  have := i0.hi
  unfold nextV
  split <;> omega
theorem w_facts {c A K L N : Int} (c1 : 1 ≤ c) (c2 : c ≤ 1073741824) (a0 : 0 ≤ A ∧ A < 4294967296) (k0 : 0 ≤ K ∧ K ≤ 7) (f2 : 0 ≤ L) (f3 : L < 2 * c ∨ L = 2147483648) (n1 : 0 ≤ N) (n2 : N ≤ 2 * c) :
    (IntKind.i64.wrap (A + c) = A + c ∧ IntKind.i64.wrap (A + c - 1) = A + c - 1 ∧ IntKind.i64.wrap (2 * c) = 2 * c ∧ IntKind.u64.wrap K = K) ∧
    (IntKind.i64.wrap (A + L) = A + L ∧ IntKind.i64.wrap (A + L - 1) = A + L - 1 ∧ IntKind.i64.wrap (A + N) = A + N ∧ IntKind.i64.wrap (A + N - 1) = A + N - 1) ∧
    inR A ∧ inR (A + L) ∧ inR (A + L - 1) ∧ inR (A + N) ∧ inR (A + N - 1) := by
  unfold inR
  refine ⟨⟨w64' ?_ ?_, w64' ?_ ?_, w64' ?_ ?_, wu64' ?_ ?_⟩, ⟨w64' ?_ ?_, w64' ?_ ?_, w64' ?_ ?_, w64' ?_ ?_⟩, ?_, ?_, ?_, ?_, ?_⟩ <;> omega
abbrev laC (l : GL) (a k : Int) : LA where
  ι := Int × Int × Int × Bool
  inv := fun y => chk l = 0 ∧ y.1 = a ∧ y.2.1 = k ∧ y.2.2.1 = leftV l a k ∧ y.2.2.2 = decide (gAt l k (phV l a) = 1)
  T := fun y => ⟨160, [(1, int_ .i64 y.1), (2, int_ .i64 y.2.1), (3, .one (.a (.ptr 1 0))), (7, int_ .i64 y.2.2.1), (8, .one (.a (.v (.bool y.2.2.2))))], [roG l, some ⟨true, .flat (glCells 0 l)⟩]⟩
  μ := fun _ => 0
  ren := fun S => [0, S.ix 3]
noncomputable def cxL (l : GL) (a k : Int) : Cx Try.prog := { ps := [hStS, hLfS, hNxS, chkS, stateS, leftS, nextS], es := [], is := [], n0 := 1, loops := fun _ => none, cuts := fun i => match i with | 11 => some (laC l a k) | 13 => some (laC l a k) | 15 => some (laC l a k) | _ => none }
set_option maxHeartbeats 16000000 in
theorem runs (l : GL) (a k : Int) (hw : Gw l) (ha : I64 a) (hk : I64 k) : Runs (cxL l (a % 4294967296) (k % 8)) Try.f8 [G1 0 l, int_ .i64 a, int_ .i64 k] [roG l] yes := by
  have hs := hw.self
  have e2 := and32i a
  have e3 := and3 k
  have a0 : 0 ≤ a % 4294967296 ∧ a % 4294967296 < 4294967296 := by omega
  have k0 : 0 ≤ k % 8 ∧ k % 8 ≤ 7 := by omega
  generalize a % 4294967296 = A at *
  generalize k % 8 = K at *
  repeat' (first | with_reducible exact trivial | with_reducible exact rfl | with_reducible exact Nat.le_refl _ | with_reducible exact (fun _ _ => rfl) | ((conv => whnf); first | (refine fun (x : Int × Int × Int × Bool) => ?_) | (refine fun _ => ?_) | refine ⟨?_, ?_⟩ | exact trivial | exact Nat.le_refl _ | exact lex_q (by kernel_rfl) | exact lex_t (by kernel_rfl) | exact lex_h (by kernel_rfl) | fail))
  any_goals (refine enter_mk (la := laC l A K) (_, _, _, _) ?_ (by (repeat' (first | ((conv => whnf); first | refine ⟨?_, ?_⟩ | exact trivial | fail) | ((try dsimp only); first | with_reducible exact rfl | exact Nat.le_refl _ | with_reducible exact (fun _ _ => rfl)))); all_goals ((try dsimp only [laC] at *); (try simp (disch := omega) only [w64', wu64', tdiv_pos, tmod_pos, Int.toNat_natCast, Nat.zero_add] at *); skip)))
  all_goals (try dsimp only [laC] at *)
  all_goals (try simp only [gl_self, e2, e3] at *)
  all_goals (try exact absurd (by assumption : (!true) = true) (by decide))
  all_goals clear e2 e3 hs
  all_goals (try exact hw)
  all_goals
    have h1 := Decidable.not_not.1 (by assumption : ¬ ¬ chk l = 0)
    have mn : min K.toNat IntKind.i64.bits = if K.toNat ≤ 64 then K.toNat else 64 := Nat.min_def
    obtain ⟨f1, ⟨f2, f3, f4, f5⟩, f6, f7, f8⟩ := again h1 a0 k0
    have c1 := (chk_ok h1).c1
    have c2 := (chk_ok h1).c2
    obtain ⟨n1, n2⟩ := next_bd (l := l) (a := A) (k := K) (Int.le_trans (by decide) c1)
    obtain ⟨⟨wA, wA1, w2, wK⟩, ⟨wL, wL1, wN, wN1⟩, r0, r1, r2, r3, r4⟩ := w_facts c1 c2 a0 k0 f2 f3 n1 n2
    have b0 := bit_of h1 r0 k0
    have bL := bit_of h1 r1 k0
    have bL1 := bit_of h1 r2 k0
    have bN := bit_of h1 r3 k0
    have bN1 := bit_of h1 r4 k0
    have g := g_01 (l := l) (q := phV l A) (k := K)
  all_goals (try (obtain ⟨x1, x2, x3, x4⟩ := x; dsimp only at *; obtain ⟨_, e1, e2, e3, e4⟩ := (by assumption : chk l = 0 ∧ x1 = A ∧ x2 = K ∧ _); subst e1 e2 e3 e4))
  all_goals (try simp only [wK, mn] at *)
  all_goals (try simp only [wA, w2, wL, wN, wA1, wL1, wN1] at *)
  all_goals (try simp only [b0, bL, bL1, bN, bN1] at *)
  all_goals clear wA wA1 w2 wK mn wL wL1 wN wN1 b0 bL bL1 bN bN1 r0 r1 r2 r3 r4
  all_goals (try exact ⟨h1, trivial, trivial, trivial, trivial⟩)
  all_goals (try exact absurd f1.symm (by assumption))
  all_goals (try exact k0.1)
  all_goals clear f1 h1
  all_goals (try generalize gAt l x2 (phV l (x1 + leftV l x1 x2 - 1)) = G1 at *)
  all_goals (try generalize gAt l x2 (phV l (x1 + leftV l x1 x2)) = G2 at *)
  all_goals (try generalize gAt l x2 (phV l (x1 + nextV l x1 x2 - 1)) = G3 at *)
  all_goals (try generalize gAt l x2 (phV l (x1 + nextV l x1 x2)) = G4 at *)
  all_goals (try generalize gAt l x2 (phV l x1) = G at *)
  all_goals (try generalize leftV l (x1 + l.cyc - 1) x2 = L2 at *)
  all_goals (try generalize leftV l x1 x2 = L at *)
  all_goals (try generalize nextV l x1 x2 = N at *)
  all_goals (try generalize nextB l x1 x2 = B at *)
  all_goals (try (have z := (by assumption : ¬ ¬ stateV l x1 = _); clear z))
  all_goals
    rcases g with g | g <;> subst g
    all_goals first
    | (simp at *; done)
    | (simp at *; omega)
    | (simp_all; done)
    | (simp_all; omega)

theorem own : ownKnob Try.prog.godebug = none := by kernel_rfl

set_option maxRecDepth 100000 in
theorem lifted (os : Os) (started : os.Started) (H : Type) (enc : TypeId × Value → H) :
    ReturnsInHanded {} Try.checked os 8 .any (Rows.gatesAgainSpec.pre6 enc Try.prog Try.f8 Rows.gatesAgainRow.domain false) (Rows.gatesAgainSpec.post enc Try.prog Try.f8 false true false false) := by
  refine returnsInHanded_of_change (C := Try.checked) own started (by kernel_rfl) Try.func8
    (ChangeSpec.witness6 (enc := enc) (C := Try.checked) false ⟨#[], #[.agg #[.int .i64 0, .int .i64 0, .slice none 0 0], .int .i64 0, .int .i64 0], []⟩ 8 (by kernel_rfl) (by kernel_rfl) (by kernel_rfl) (by kernel_rfl)) ?_
  intro W base args ds gs before hval0 hW hcnd _
  have hval : ∀ (j : Nat) t v, Try.f8.params[j]? = some t → args[j]? = some v → Value.okWide Try.prog W .any base t v := hval0
  have hW' := hW
  obtain ⟨p, q, hA0, hV, rfl, hfz, hnd⟩ := hW
  have hA : DataW.TrodAll enc Try.prog W 0 (fun _ => true) true Try.f8.params.toList args.toList ds p := hA0
  rw [Try.params8] at hA hval
  obtain ⟨v0, vs0, d0, ds0, p0, q0, hargs0, rfl, rfl, h0, r0⟩ := trodAll_cons hA
  obtain ⟨v1, vs1, d1, ds1, p1, q1, hargs1, rfl, rfl, h1, r1⟩ := trodAll_cons r0
  obtain ⟨v2, vs2, d2, ds2, p2, q2, hargs2, rfl, rfl, h2, r2⟩ := trodAll_cons r1
  obtain ⟨rfl, rfl, rfl⟩ := trodAll_nil r2
  obtain ⟨rfl, rfl⟩ := trodVars_none hV
  obtain rfl : args = #[v0, v1, v2] := by cases args; simp_all
  obtain ⟨a1, rfl, rfl, rfl, w1⟩ := open_int Try.underlying3 (hval 1 3 v1 rfl rfl) h1
  obtain ⟨a2, rfl, rfl, rfl, w2⟩ := open_int Try.underlying3 (hval 2 3 v2 rfl rfl) h2
  obtain ⟨cs0, hv0, hl0, hc0⟩ := mix_agg (d := 6) (ss := [.num (some .i64), .num (some .i64), .sl [some .i64, some .i64]]) Try.underlying24 (by kernel_rfl) (by kernel_rfl) (hval 0 24 v0 rfl rfl) h0
  have g0_0 := listMix_of hl0 hc0
  clear hl0 hc0
  obtain ⟨_, cs0_1, rfl, ⟨b0_0, rfl, w0_0⟩, g0_1⟩ := listMix_cons g0_0
  obtain ⟨_, cs0_2, rfl, ⟨b0_1, rfl, w0_1⟩, g0_2⟩ := listMix_cons g0_1
  obtain ⟨u0_2, cs0_3, rfl, ⟨A0_2, n0_2, c0_2, s0_2⟩, g0_3⟩ := listMix_cons g0_2
  obtain rfl := listMix_nil g0_3
  subst hv0
  refine Calls.mono (law_calls mixed Try.func8 (runs ⟨b0_0, b0_1, n0_2, c0_2, n0_2, fun r => intC W A0_2 (r * 2 + 0), fun r => intC W A0_2 (r * 2 + 1)⟩ a1 a2 (gw_of w0_0 w0_1 s0_2) (i64_of w1) (i64_of w2)) (e := envOf [A0_2]) (rel_in1 s0_2.reg) (Nat.le_refl 1) (by rw [s0_2.val]; exact congrArg (fun x => #[x, _, _]) den_gl.symm)) fun e W' ⟨he, hb⟩ => ?_
  subst he
  exact ⟨_, rfl, law_post hW' rfl rfl (by kernel_rfl) (by decide +kernel) rfl Try.underlying4 hb⟩

theorem over : Rows.gatesAgainRow.holds Try.pinned (OpenSpec.ofChange Rows.gatesAgainSpec) :=
  OpenClaim.holds_of_wide 8 Try.f8 rfl rfl rfl rfl rfl rfl rfl ⟨rfl, rfl, rfl, rfl, rfl⟩ rfl rfl rfl rfl rfl (by kernel_rfl) Try.func8 (by kernel_rfl)
    (of_decide_eq_true (by kernel_rfl)) (by unfold Func.isWrapper; first | (rw [if_pos (by decide +kernel)]; kernel_rfl) | (rw [if_neg (by decide +kernel)]; exact ⟨rfl, rfl⟩))
    (fun os started H enc _ => lifted os started H enc)

/-- GatesAgain -/
theorem proved : Rows.GatesAgainSaid := over
#print axioms proved
end Go.Proofs.Ytkehcpafbkmapaa.gatesAgain
