/-
  For every slice of bytes the law EtherReads answers true and leaves all memory as it was.
-/
import Derived.Test.YtiaadplhpkggeaaSx
import Derived.Test.YtiaadplhpkggeaaFcsNum
import Derived.Test.YtiaadplhpkggeaaFcsBits
import Derived.Test.YtiaadplhpkggeaaFcsA
import Derived.Test.YtiaadplhpkggeaaFcsB
import Derived.Test.YtiaadplhpkggeaaFcsIn
import Derived.Test.YtiaadplhpkggeaaFcsC
import Derived.Test.YtiaadplhpkggeaaFcsJ
import Derived.Test.YtiaadplhpkggeaaFcsH
import Derived.Test.YtiaadplhpkggeaaEthNum
import Derived.Test.YtiaadplhpkggeaaEthA
import Derived.Test.YtiaadplhpkggeaaEthB
import Derived.Test.YtiaadplhpkggeaaEthD
import Derived.Test.YtiaadplhpkggeaaEthM
import Derived.Test.YtiaadplhpkggeaaEthR
import Derived.Test.YtiaadplhpkggeaaEthS
import Derived.Test.YtiaadplhpkggeaaRows
import Derived.WalkKit
import Derived.ProofKit
import Derived.OpenShut
namespace Go.Proofs.Ytiaadplhpkggeaa.etherReads
open Go.ChangeShapes Go.WideShapes Go.ChangeAt Go.RowKit Go.Sx
set_option linter.unusedVariables false
set_option linter.unusedSimpArgs false
set_option maxRecDepth 100000

theorem fn33 : FnOf Try.prog 33 Try.f33 := ⟨Try.func33, rfl, rfl, mixed⟩
attribute [local irreducible] enter anyAlt Bw
theorem w_c {g h : Nat → Int} (e : ∀ r, r < 64 → g r = h r) (i : Nat) (hi : i + 1 < 64) : w16 g i = w16 h i := by unfold w16; rw [e i (by omega), e (i + 1) hi]
structure Heads (g h : Nat → Int) : Prop where
  t : dT g = dT h
  q1 : o1 g = o1 h
  m : dM g = dM h
  q2 : o2 g = o2 h
  n : dn g = dn h
  f : ∀ d, frD g d = frD h d
theorem heads {g h : Nat → Int} (e : ∀ r, r < 64 → g r = h r) : Heads g h := by
  have w := w_c e
  have h1 := o1_c h
  have h2 := o2_c h
  have t : dT g = dT h := by unfold dT; rw [w 12 (by omega)]
  have q1 : o1 g = o1 h := by unfold o1; rw [t]
  have m : dM g = dM h := by unfold dM; rw [q1, w _ (by omega)]
  have q2 : o2 g = o2 h := by unfold o2; rw [m, q1]
  have n : dn g = dn h := by unfold dn; rw [q2, w _ (by omega)]
  refine ⟨t, q1, m, q2, n, fun d => ?_⟩
  have v : dV g = dV h := by unfold dV; rw [t, w 14 (by omega)]
  have p : dP g = dP h := by unfold dP; rw [t, w 14 (by omega)]
  have dd : dD g = dD h := by unfold dD; rw [t, w 14 (by omega)]
  have s : dS g = dS h := by unfold dS; rw [m, q1, w _ (by omega)]
  unfold frD
  rw [t, v, p, dd, m, s, q2, w _ (by omega), e 0 (by omega), e 1 (by omega), e 2 (by omega), e 3 (by omega), e 4 (by omega), e 5 (by omega), e 6 (by omega), e 7 (by omega), e 8 (by omega), e 9 (by omega), e 10 (by omega), e 11 (by omega)]
theorem dok_c {g h : Nat → Int} {len : Nat} (h64 : 64 ≤ len) (e : ∀ r, r < len → g r = h r) (k : DOk g len) : DOk h len := by
  have hd := heads (fun r hr => e r (by omega))
  have h1 := o1_c h
  have w := w_c (fun r (hr : r < 64) => e r (by omega))
  refine ⟨fun hm => ?_, by rw [← hd.q2, ← hd.n]; exact k.n, by rw [← hd.f, ← hd.n]; exact k.c, by rw [← hd.f, ← hd.n]; exact k.s, fun r h1 h2 => ?_⟩
  · rw [← hd.q1, ← w _ (by rw [hd.q1]; omega)]; exact k.z (hd.m.trans hm)
  · rw [← e r (by omega)]; exact k.f r (by rw [hd.q2, hd.n]; exact h1) h2
theorem derr_c {a b : IS} (h : a.len = b.len) (e : ∀ r, r < b.len → a.g r = b.g r) : derr a = derr b := by
  obtain ⟨la, ca, na, ga⟩ := a
  dsimp only at h e
  subst h
  by_cases h1 : b.len < 64
  · rw [derr_20 (a := b) h1]; exact derr_20 h1
  · by_cases h2 : 1600 < b.len
    · rw [derr_3 (a := b) h1 h2]; exact derr_3 h1 h2
    · by_cases h3 : opB b.g b.len
      · have h3' : opB ga b.len := (opB_congr e).2 h3
        by_cases h4 : DOk b.g b.len
        · rw [derr_0 (a := b) h1 h2 h3 h4]; exact derr_0 h1 h2 h3' (dok_c (len := b.len) (by omega) (fun r hr => (e r hr).symm) h4)
        · rw [derr_21 (a := b) h1 h2 h3 h4]; exact derr_21 h1 h2 h3' (fun h9 => h4 (dok_c (len := b.len) (by omega) e h9))
      · rw [derr_22 (a := b) h1 h2 h3]; exact derr_22 h1 h2 (fun h9 => h3 ((opB_congr e).1 h9))
noncomputable def cxPl : Cx Try.prog := { ps := [], es := [], is := [], n0 := 1, loops := fun _ => none, cuts := fun _ => none }
theorem pl_runs (f : Fr) (_ : obp (some True)) : Runs cxPl Try.f33 [F1 0 f] [roB f.data] fun v _ => isRes (F1 0 f) v := by
  repeat' (first | with_reducible exact trivial | with_reducible exact rfl | with_reducible exact Nat.le_refl _ | with_reducible exact (fun _ _ => rfl) | ((conv => whnf); first | (refine fun _ => ?_) | refine ⟨?_, ?_⟩ | exact trivial | exact Nat.le_refl _ | exact lex_q (by kernel_rfl) | exact lex_t (by kernel_rfl) | exact lex_h (by kernel_rfl) | fail))
noncomputable def plS : PSpec Try.prog := readN fn33 sf (fun _ => cxPl) (fun _ => some True) (fun f => F1 0 f) (fun _ => rfl) (fun _ => rfl) (fun _ => rfl) pl_runs
theorem derr_e {a : IS} (h : derr a = 0) : 64 ≤ a.len ∧ a.len ≤ 1600 ∧ opB a.g a.len ∧ DOk a.g a.len := by
  by_cases h1 : a.len < 64
  · rw [derr_20 h1] at h; cases h
  · by_cases h2 : 1600 < a.len
    · rw [derr_3 h1 h2] at h; cases h
    · by_cases h3 : opB a.g a.len
      · by_cases h4 : DOk a.g a.len
        · exact ⟨by omega, by omega, h3, h4⟩
        · rw [derr_21 h1 h2 h3 h4] at h; cases h
      · rw [derr_22 h1 h2 h3] at h; cases h
theorem sameB_refl {a : IS} (h : Bytes a.g a.len) : sameB a a = true := (sameB_iff h h).2 ⟨rfl, fun _ _ => rfl⟩
theorem sameF_d {g h : Nat → Int} (hf : ∀ d, frD g d = frD h d) {d d' : IS} (hs : sameB d d' = true) : sameF (frD g d) (frD h d') = true := by
  rw [hf d]
  unfold sameF
  rw [show sameB (frD h d).data (frD h d').data = true from hs, Bool.and_true]
  exact decide_eq_true ⟨rfl, rfl, rfl, rfl, rfl, rfl, rfl, rfl, rfl, rfl, rfl, rfl, rfl, rfl, rfl, rfl, rfl, rfl, rfl⟩
theorem dec_bw {a : IS} (hw : Bw a) (h : derr a = 0) {y : CG} (hy : CB (dn a.g) (dG a.g) y) : Bw (fam (dn a.g) y) ∧ dn a.g ≤ 2000 := by
  obtain ⟨h1, h2, _, h4⟩ := derr_e h
  have h5 := h4.n
  exact ⟨hy.bw fun r hr => hw.out.1 _ (by omega), by omega⟩
theorem dec_pair {a b : IS} (ha : Bw a) (hb : Bw b) (hl : a.len = b.len) (e : ∀ r, r < b.len → a.g r = b.g r) (h : derr b = 0) {x y : CG} (hx : CB (dn a.g) (dG a.g) x) (hy : CB (dn b.g) (dG b.g) y) :
    sameF (frD a.g (fam (dn a.g) x)) (frD b.g (fam (dn b.g) y)) = true := by
  obtain ⟨h1, h2, _, h4⟩ := derr_e h
  have hd := heads (g := a.g) (h := b.g) fun r hr => e r (by omega)
  have h5 := h4.n
  have ha0 : derr a = 0 := (derr_c hl e).trans h
  refine sameF_d hd.f ((sameB_iff (dec_bw ha ha0 hx).1.out.1 (dec_bw hb h hy).1.out.1).2 ⟨hd.n, fun r hr => ?_⟩)
  have hr : r < dn a.g := hr
  have hn := hd.n
  show x.g r = y.g r
  rw [hx.2.2 r hr, hy.2.2 r (by omega)]
  unfold dG
  rw [hd.q2]
  exact e _ (by omega)
theorem fr_z {d d' : IS} (h : sameB d d' = true) : sameF ⟨0, 0, 0, 0, 0, 0, 0, 0, 0, 0, 0, 0, false, 0, 0, false, false, 0, 0, d⟩ ⟨0, 0, 0, 0, 0, 0, 0, 0, 0, 0, 0, 0, false, 0, 0, false, false, 0, 0, d'⟩ = true := by
  unfold sameF
  rw [show sameB (Fr.data ⟨0, 0, 0, 0, 0, 0, 0, 0, 0, 0, 0, 0, false, 0, 0, false, false, 0, 0, d⟩) (Fr.data ⟨0, 0, 0, 0, 0, 0, 0, 0, 0, 0, 0, 0, false, 0, 0, false, false, 0, 0, d'⟩) = true from h]; rfl
theorem f_t {b : Bool} (h : b = true) (h2 : (!b) = true) : False := by rw [h] at h2; cases h2
inductive LX where
  | no (cap : Nat) (g : Nat → Int)
  | ok (i : Nat) (cap : Nat) (g : Nat → Int) (n c : Nat) (h : Nat → Int)
abbrev TX (b : IS) : LX → St
  | .no cap g => ⟨53, [(0, .one (.a (.slc 0 1 0 b.len b.cap))), (3, .one (.a (.slc 1 1 0 b.len cap))), (4, .one (.a (.ptr 2 0))), (38, int_ .i64 0), (39, int_ .i64 0)], [roB b, rwB ⟨cap, g⟩, flatR (zC nilA)]⟩
  | .ok i cap g n c h => ⟨53, [(0, .one (.a (.slc 0 1 0 b.len b.cap))), (3, .one (.a (.slc 1 1 0 b.len cap))), (4, .one (.a (.ptr 2 0))), (38, int_ .i64 n), (39, int_ .i64 i)], [roB b, rwB ⟨cap, g⟩, flatR (frCells (frD g (d0 0)) (.slc 3 1 0 n c)), rwB ⟨c, h⟩]⟩
abbrev invX (b : IS) : LX → Prop
  | .no cap g => CB b.len b.g ⟨cap, g⟩
  | .ok i cap g n c _ => CB b.len b.g ⟨cap, g⟩ ∧ n ≤ 2000 ∧ n ≤ c ∧ i ≤ n
abbrev laX (b : IS) : LA where
  ι := LX
  inv := invX b
  T := TX b
  μ := fun y => match y with | .no _ _ => 0 | .ok i _ _ n _ _ => n - i
  ren := fun S => match ixc S 4 19 with | 0 => [0, S.ix 3, S.ix 4] | k => [0, S.ix 3, S.ix 4, k]
noncomputable def cxL (b : IS) : Cx Try.prog := { ps := [eheadS, sameS, rsamS, plS], es := [copyS, decS, rdecS], is := [], n0 := 1, loops := fun i => (match i with | 11 => some (.inv (laX b)) | _ => none), cuts := fun _ => none }
attribute [local irreducible] chk derr sameF
set_option maxHeartbeats 16000000 in
theorem runs (b : IS) (hw : Bw b) : Runs (cxL b) Try.f12 [D1 0 b] [roB b] yes := by
  have hd := hw.out
  repeat' (first | with_reducible exact trivial | with_reducible exact rfl | with_reducible exact Nat.le_refl _ | with_reducible exact (fun _ _ => rfl) | ((conv => whnf); first | (refine fun (x : CG) => ?_) | (refine fun (y : CG) => ?_) | ((refine fun (z : LX) => ?_); rcases z with z | z) | (exact fun h => absurd h (by decide)) | (intro h9; (have h8 := of_decide_eq_true (p := type_of% h9) (by decide)); clear h8 h9) | (refine fun _ => ?_) | refine ⟨?_, ?_⟩ | exact trivial | exact Nat.le_refl _ | exact lex_q (by kernel_rfl) | exact lex_t (by kernel_rfl) | exact lex_h (by kernel_rfl) | fail))
  all_goals (try exact no_t (by assumption))
  all_goals (try dsimp only [cutR, cutL, id] at *)
  all_goals (try simp only [fr_eta, frD_eta] at *)
  all_goals (try simp (disch := omega) only [fdiv_nn, Int.reduceToNat, IntKind.bits, Nat.min_def, Nat.reduceLeDiff, if_true, if_false, Int.reducePow, wu8, wu32, w64', wu64', tdiv_pos, tmod_pos, Int.toNat_natCast, Nat.zero_add] at *)
  all_goals (try omega)
  all_goals (try rfl)
  all_goals (try exact hw.self)
  all_goals (try (have hX := (by assumption : invX b (.no _ _)); have hX2 : CB b.len b.g _ := hX; first | exact hX2.bw (fun r hr => hd.1 r hr) | exact (same_cb (hX2.bw (fun r hr => hd.1 r hr)) hw rfl rfl hX2.2.2 (fun _ _ => rfl)).symm))
  all_goals (try (have hX := (by assumption : invX b (.ok _ _ _ _ _ _)); have hX2 : CB b.len b.g _ := hX.1; have hX3 := hX.2; first | exact hX2.bw (fun r hr => hd.1 r hr) | exact (same_cb (hX2.bw (fun r hr => hd.1 r hr)) hw rfl rfl hX2.2.2 (fun _ _ => rfl)).symm | skip))
  all_goals (try (
    have hX := (by assumption : invX b (.ok _ _ _ _ _ _))
    have hX2 : CB b.len b.g _ := hX.1
    have hX3 := hX.2
    first | omega | (
      (conv => whnf); refine enter_mk (la := laX b) (.ok (z + 1) _ _ _ _ _) ?_ (by (repeat' (first | ((conv => whnf); first | refine ⟨?_, ?_⟩ | exact trivial | fail) | (dsimp only; done) | ((try dsimp only); first | with_reducible exact rfl | exact Nat.le_refl _ | with_reducible exact (fun _ _ => rfl)))); all_goals ((first | omega | (rw [w64' (by omega) (by omega)]; omega) | (dsimp only; omega) | rfl)))
      exact ⟨hX2, by omega⟩)))
  all_goals
    have h1 := (by assumption : CB b.len (fun q => b.g (q + 0)) _)
    have hxw := h1.bw (fun r hr => hd.1 r hr)
    have hE := derr_c (a := fam b.len _) (b := ⟨b.len, b.cap, b.N - 0, fun q => b.g (q + 0)⟩) rfl h1.2.2
    try simp only [hE] at *
  all_goals (try exact hxw)
  all_goals (try exact absurd rfl (by assumption))
  all_goals (try exact absurd trivial (by assumption))
  all_goals (try exact bw_zero)
  all_goals (try (exact absurd (by assumption : derr _ = 0 ∧ _).1 (by assumption)))
  all_goals (try (exact absurd (by assumption : derr _ = 0 ∧ _).1.symm (by assumption)))
  · exact (f_t (fr_z (sameB_refl (fun r hr => absurd hr (Nat.not_lt_zero r)))) (by assumption)).elim
  · (conv => whnf); refine enter_mk (la := laX b) (.no _ _) ?_ (by (repeat' (first | ((conv => whnf); first | refine ⟨?_, ?_⟩ | exact trivial | fail) | (dsimp only; done) | ((try dsimp only); first | with_reducible exact rfl | exact Nat.le_refl _ | with_reducible exact (fun _ _ => rfl)))); all_goals (rfl))
    exact h1
  all_goals
    have k1 := (by assumption : derr _ = 0 ∧ CB (dn (fun q => b.g (q + 0))) _ _)
    have k2 := (by assumption : derr _ = 0 ∧ CB (dn (fun q => CG.g _ (q + 0))) _ _)
    have w1 := dec_bw hw.self k1.1 k1.2
    have w2 := dec_bw hxw ((derr_c (a := fam b.len _) (b := ⟨b.len, b.cap, b.N - 0, fun q => b.g (q + 0)⟩) rfl h1.2.2).trans k1.1) k2.2
    have w3 := dec_pair hxw hw.self rfl h1.2.2 k1.1 k2.2 k1.2
  · exact w2.1
  · exact w1.1
  · exact (f_t w3 (by assumption)).elim
  · (conv => whnf); refine enter_mk (la := laX b) (.ok 0 _ _ _ _ _) ?_ (by (repeat' (first | ((conv => whnf); first | refine ⟨?_, ?_⟩ | exact trivial | fail) | (dsimp only; done) | ((try dsimp only); first | with_reducible exact rfl | exact Nat.le_refl _ | with_reducible exact (fun _ _ => rfl)))); all_goals (rfl))
    exact ⟨h1, w2.2, k2.2.1, Nat.zero_le _⟩

theorem own : ownKnob Try.prog.godebug = none := by kernel_rfl

set_option maxRecDepth 100000 in
theorem lifted (os : Os) (started : os.Started) (H : Type) (enc : TypeId × Value → H) :
    ReturnsInHanded {} Try.checked os 12 .any (Rows.etherReadsSpec.pre6 enc Try.prog Try.f12 Rows.etherReadsRow.domain false) (Rows.etherReadsSpec.post enc Try.prog Try.f12 false true false false) := by
  refine returnsInHanded_of_change (C := Try.checked) own started (by kernel_rfl) Try.func12
    (ChangeSpec.witness6 (enc := enc) (C := Try.checked) false ⟨#[], #[.slice none 0 0], []⟩ 8 (by kernel_rfl) (by kernel_rfl) (by kernel_rfl) (by kernel_rfl)) ?_
  intro W base args ds gs before hval0 hW hcnd _
  have hval : ∀ (j : Nat) t v, Try.f12.params[j]? = some t → args[j]? = some v → Value.okWide Try.prog W .any base t v := hval0
  have hW' := hW
  obtain ⟨p, q, hA0, hV, rfl, hfz, hnd⟩ := hW
  have hA : DataW.TrodAll enc Try.prog W 0 (fun _ => true) true Try.f12.params.toList args.toList ds p := hA0
  rw [Try.params12] at hA hval
  obtain ⟨v0, vs0, d0, ds0, p0, q0, hargs0, rfl, rfl, h0, r0⟩ := trodAll_cons hA
  obtain ⟨rfl, rfl, rfl⟩ := trodAll_nil r0
  obtain ⟨rfl, rfl⟩ := trodVars_none hV
  obtain rfl : args = #[v0] := by cases args; simp_all
  obtain ⟨A0, n0, c0, s0⟩ := slice_open (d := 6) (row := [some .u8]) Try.underlying28 (by kernel_rfl) (by kernel_rfl) (hval 0 28 v0 rfl rfl) h0
  refine Calls.mono (law_calls mixed Try.func12 (runs ⟨n0, c0, n0, fun r => intC W A0 (r * 1 + 0)⟩ (bw_of s0)) (rel_one s0.reg) (Nat.le_refl 1) (by rw [s0.val]; exact congrArg (fun x => #[x]) (den_slc (e := fun _ => A0) (i := 0) (st := 1) rfl).symm)) fun e W' ⟨he, hb⟩ => ?_
  subst he
  exact ⟨_, rfl, law_post hW' rfl rfl (by kernel_rfl) (by decide +kernel) rfl Try.underlying4 hb⟩

theorem over : Rows.etherReadsRow.holds Try.pinned (OpenSpec.ofChange Rows.etherReadsSpec) :=
  OpenClaim.holds_of_wide 12 Try.f12 rfl rfl rfl rfl rfl rfl rfl ⟨rfl, rfl, rfl, rfl, rfl⟩ rfl rfl rfl rfl rfl (by kernel_rfl) Try.func12 (by kernel_rfl)
    (of_decide_eq_true (by kernel_rfl)) (by unfold Func.isWrapper; first | (rw [if_pos (by decide +kernel)]; kernel_rfl) | (rw [if_neg (by decide +kernel)]; exact ⟨rfl, rfl⟩))
    (fun os started H enc _ => lifted os started H enc)

/-- EtherReads -/
theorem proved : Rows.EtherReadsSaid := over
#print axioms proved
end Go.Proofs.Ytiaadplhpkggeaa.etherReads
