/-
  For every setup, all frames and every turn the law SeqrRound answers true and leaves all memory as it was.
-/
import Derived.Test.YtlhlegjndembdaaSx
import Derived.Test.YtlhlegjndembdaaSeqA
import Derived.Test.YtlhlegjndembdaaSeqB
import Derived.Test.YtlhlegjndembdaaSeqC
import Derived.Test.YtlhlegjndembdaaRows
import Derived.WalkKit
import Derived.ProofKit
import Derived.OpenShut
namespace Go.Proofs.Ytlhlegjndembdaa.seqrRound
open Go.ChangeShapes Go.WideShapes Go.ChangeAt Go.RowKit Go.Sx
set_option linter.unusedVariables false
set_option linter.unusedSimpArgs false
set_option maxRecDepth 100000

def R16 (t : Int) (a : Sq) (l : Int) : Prop := (0 ≤ a.last ∧ a.last ≤ 65535) ∧ (a.any = true ∨ l = (a.last + t) % 65536)
theorem and16 (a : Int) : bits .and .i64 a 65535 = a % 65536 := and_mask a 16 (by decide)
theorem ahead_eq {q l t x : Int} (hq : 0 ≤ q ∧ q ≤ 65535) (hl : 0 ≤ l ∧ l ≤ 65535) (hx : x = (l + t) % 65536) : aheadM ((q + t) % 65536) x = aheadM q l := by
  have h : ∀ a b : Int, (0 ≤ a ∧ a ≤ 65535) → (0 ≤ b ∧ b ≤ 65535) → bits .and .i64 (IntKind.i64.wrap (a - b)) 65535 = (a - b) % 65536 := fun a b h1 h2 => by rw [and16, w64' (by omega) (by omega)]
  unfold aheadM
  simp only
  rw [h _ _ (by omega) (by omega), h _ _ hq hl, show ((q + t) % 65536 - x) % 65536 = (q - l) % 65536 by omega]
theorem r_turn {t l n : Int} {a : Sq} (h : R16 t a l) : ({ a with last := l } : Sq).turn n = { a.turn n with last := l } ∧ R16 t (a.turn n) l := by
  unfold Sq.turn Sq.anew
  refine ⟨?_, ?_⟩
  · dsimp only; split <;> rfl
  · split
    · exact ⟨h.1, .inl rfl⟩
    · exact h
theorem r_match {t l q : Int} {a : Sq} (h : R16 t a l) (hq : 0 ≤ q ∧ q ≤ 65535) : ∃ l', ({ a with last := l } : Sq).match_ ((q + t) % 65536) = ((a.match_ q).1, { (a.match_ q).2 with last := l' }) ∧ R16 t (a.match_ q).2 l' ∧ (a.way = 1 → (a.match_ q).1 = 0 ∨ (a.match_ q).1 = 3 → l' = ((a.match_ q).2.last + t) % 65536) := by
  obtain ⟨h1, h2⟩ := h
  unfold Sq.match_
  dsimp only
  by_cases hw : a.way = 1
  · rw [if_pos hw, if_pos hw]
    by_cases ha : a.any = true
    · rw [if_neg (fun h => by rw [ha] at h; cases h.1), if_neg (fun h => by rw [ha] at h; cases h.1)]
      exact ⟨(q + t) % 65536, rfl, ⟨hq, .inr rfl⟩, fun _ _ => rfl⟩
    · have h3 : l = (a.last + t) % 65536 := h2.resolve_left ha
      have ha : a.any = false := by simpa using ha
      by_cases h4 : a.last = q
      · rw [if_pos ⟨ha, by rw [h3, h4]⟩, if_pos ⟨ha, h4⟩]
        exact ⟨l, rfl, ⟨h1, .inr h3⟩, fun _ _ => h3⟩
      · rw [if_neg (fun h => h4 (by have := h.2; omega)), if_neg (fun h => h4 h.2)]
        exact ⟨(q + t) % 65536, rfl, ⟨hq, .inr rfl⟩, fun _ _ => rfl⟩
  · rw [if_neg hw, if_neg hw]
    exact ⟨l, rfl, ⟨h1, h2⟩, fun h => absurd h hw⟩
theorem r_vector {t l q : Int} {a : Sq} (h : R16 t a l) (hq : 0 ≤ q ∧ q ≤ 65535) : ∃ l', ({ a with last := l } : Sq).vector ((q + t) % 65536) = ((a.vector q).1, { (a.vector q).2 with last := l' }) ∧ R16 t (a.vector q).2 l' ∧ ((a.vector q).1 = 0 ∨ (a.vector q).1 = 3 → l' = ((a.vector q).2.last + t) % 65536) := by
  obtain ⟨h1, h2⟩ := h
  unfold Sq.vector
  dsimp only
  by_cases ha : a.any = true
  · simp only [if_pos ha]
    exact ⟨(q + t) % 65536, rfl, ⟨hq, .inr rfl⟩, fun _ => rfl⟩
  · have h3 : l = (a.last + t) % 65536 := h2.resolve_left ha
    simp only [if_neg ha, ahead_eq hq h1 h3]
    by_cases h5 : a.len ≤ aheadM q a.last ∨ aheadM q a.last ≤ IntKind.i64.wrap (0 - a.len)
    · simp only [if_pos h5]
      exact ⟨l, rfl, ⟨h1, .inr h3⟩, fun _ => h3⟩
    · simp only [if_neg h5]
      by_cases h6 : aheadM q a.last ≤ 0
      · simp only [if_pos h6]
        by_cases h7 : bits .and .u64 a.had (IntKind.u64.wrap (1 * 2 ^ min (IntKind.i64.wrap (0 - aheadM q a.last)).toNat IntKind.u64.bits)) = 0
        · simp only [if_pos h7]
          exact ⟨l, rfl, ⟨h1, .inr h3⟩, fun _ => h3⟩
        · simp only [if_neg h7]
          exact ⟨l, rfl, ⟨h1, .inr h3⟩, fun _ => h3⟩
      · simp only [if_neg h6]
        exact ⟨(q + t) % 65536, rfl, ⟨hq, .inr rfl⟩, fun _ => rfl⟩
theorem r_in {t l q n : Int} {a : Sq} (h : R16 t a l) (hq : 0 ≤ q ∧ q ≤ 65535) (hw0 : a.way = 0 ∨ a.way = 1) : ∃ l', ({ a with last := l } : Sq).in_ n ((q + t) % 65536) = ((a.in_ n q).1, (a.in_ n q).2.1, { (a.in_ n q).2.2 with last := l' }) ∧ R16 t (a.in_ n q).2.2 l' ∧ (a.in_ n q).2.2.len = a.len ∧ (a.in_ n q).2.2.way = a.way := by
  obtain ⟨e1, h1⟩ := r_turn (n := n) h
  obtain ⟨l2, e2, h2, g2⟩ := r_match h1 hq
  obtain ⟨l3, e3, h3, g3⟩ := r_vector h2 hq
  have m1 := match_len (a.turn n) q
  have t1 := turn_len a n
  have v1 := vector_len ((a.turn n).match_ q).2 q
  have em : ({ a with last := l } : Sq).mid n ((q + t) % 65536) = ((a.mid n q).1, { (a.mid n q).2 with last := if ((a.turn n).match_ q).2.way = 0 then l3 else l2 }) ∧ R16 t (a.mid n q).2 (if ((a.turn n).match_ q).2.way = 0 then l3 else l2) ∧ (a.mid n q).2.len = a.len ∧ (a.mid n q).2.way = a.way ∧ ((a.mid n q).1 = 0 ∨ (a.mid n q).1 = 3 → (if ((a.turn n).match_ q).2.way = 0 then l3 else l2) = ((a.mid n q).2.last + t) % 65536) := by
    unfold Sq.mid
    rw [e1, e2]
    dsimp only
    by_cases hw : ((a.turn n).match_ q).2.way = 0
    · simp only [if_pos hw, e3]
      exact ⟨trivial, h3, by rw [v1.1, m1.1, t1.1], by rw [v1.2.1, m1.2.1, t1.2.1], g3⟩
    · simp only [if_neg hw]
      have hw1 : a.way = 1 := hw0.resolve_left (by rw [m1.2.1, t1.2.1] at hw; exact hw)
      exact ⟨trivial, h2, by rw [m1.1, t1.1], by rw [m1.2.1, t1.2.1], g2 (by rw [t1.2.1]; exact hw1)⟩
  obtain ⟨e4, h4, e5, e6, g4⟩ := em
  generalize (if ((a.turn n).match_ q).2.way = 0 then l3 else l2) = l4 at *
  rw [in_mid (by omega) e4, in_mid (s := a) (n := n) (q := q) (w := (a.mid n q).1) (t := (a.mid n q).2) (by omega) rfl]
  refine ⟨l4, ?_, ?_⟩
  · unfold Sq.fin Sq.bump
    dsimp only
    split <;> rfl
  · unfold Sq.fin Sq.bump
    dsimp only
    split
    · rename_i hw
      exact ⟨⟨h4.1, .inr (g4 hw)⟩, e5, e6⟩
    · exact ⟨h4, e5, e6⟩
theorem in_err {s : Sq} {n q : Int} (h : 0 ≤ q ∧ q ≤ 65535) : (s.in_ n q).2.1 = 0 := by
  rw [in_mid (s := s) (n := n) (q := q) (w := (s.mid n q).1) (t := (s.mid n q).2) (by omega) rfl]
/-- slices of steps -/
structure ST where
  len : Nat
  cap : Nat
  N : Nat
  f : Nat → Int
  g : Nat → Int
def roT (a : ST) : Option Reg := some ⟨false, .tab a.N [.int .i64 a.f, .int .i64 a.g]⟩
def Tw (a : ST) : Prop := a.len ≤ a.cap ∧ a.len ≤ a.N ∧ a.cap ≤ 9223372036854775807
theorem eq46 : EqOK Try.prog 46 := by unfold EqOK; kernel_rfl
def cfV (c : Int × Int × Int) : SV := .one (.agg [i_ c.1, i_ c.2.1, i_ c.2.2])
theorem den_on {x y z t : Int} {A : Option Addr} {n cap : Nat} : #[(cfV (x, y, z)).den (envOf [A]), SV.den (envOf [A]) (.one (.a (.slc 0 2 0 n cap))), SV.den (envOf [A]) (int_ .i64 t)] = #[.agg #[.int .i64 x, .int .i64 y, .int .i64 z], .slice A n cap, .int .i64 t] := by
  show #[Value.agg _, SA.den (envOf [A]) (.slc 0 2 0 n cap), _] = _
  rw [den_slc (A := A) rfl]; rfl
structure RZ where
  i : Nat
  a : Sq
  l : Int
abbrev laR (st : ST) (c : Int × Int × Int) (t : Int) : LA where
  ι := RZ
  inv := fun x => x.i ≤ st.len ∧ (x.a.len = c.2.1 ∧ x.a.way = c.1) ∧ R16 t x.a x.l
  T := fun x => ⟨99, [(2, int_ .i64 t), (7, .one (.a (.ptr 1 0))), (9, .one (.a (.ptr 2 0))), (43, .one (.a (.slc 0 2 0 st.len st.cap))), (44, int_ .i64 st.len), (45, int_ .i64 x.i)], [roT st, some ⟨true, .flat x.a.cells⟩, some ⟨true, .flat ({ x.a with last := x.l } : Sq).cells⟩]⟩
  μ := fun x => st.len - x.i
  ren := fun S => [0, S.ix 7, S.ix 9]
noncomputable def cxL (st : ST) (c : Int × Int × Int) (t : Int) : Cx Try.prog := { ps := [hdS, chkCS, countsS, lostS], es := [inS], is := [inl fn15 cxNew], n0 := 1, loops := fun i => match i with | 11 => some (.inv (laR st c t)) | _ => none, cuts := fun _ => none }
attribute [local irreducible] enter anyAlt
set_option maxHeartbeats 16000000 in
theorem runs (c1 c2 c3 : Int) (st : ST) (t : Int) (hw : Tw st) : Runs (cxL st (c1, c2, c3) (t % 65536)) Try.f6 [.one (.agg [i_ c1, i_ c2, i_ c3]), .one (.a (.slc 0 2 0 st.len st.cap)), int_ .i64 t] [roT st] yes := by
  obtain ⟨w1, w2, w3⟩ := hw
  repeat' (first | with_reducible exact trivial | with_reducible exact rfl | with_reducible exact Nat.le_refl _ | with_reducible exact (fun _ _ => rfl) | ((conv => whnf); first | (refine fun (x : RZ) => ?_) | (refine fun _ => ?_) | refine ⟨?_, ?_⟩ | exact trivial | exact Nat.le_refl _ | exact lex_q (by kernel_rfl) | exact lex_t (by kernel_rfl) | exact lex_h (by kernel_rfl) | fail))
  all_goals (try (have hi := (by assumption : (laR st (c1, c2, c3) (t % 65536)).inv x); dsimp only [laR] at hi))
  all_goals (try exact absurd (by assumption : (!true) = true) (by decide))
  all_goals (try exact (decide_eq_true rfl).symm)
  all_goals (try exact absurd (by assumption : ¬ chkC (c1, c2, c3) = 0) (by assumption))
  all_goals (have hc := cf_of (by assumption : ¬ ¬ chkC (c1, c2, c3) = 0))
  all_goals (unfold CfOK at hc; dsimp only at hc)
  all_goals (try (have hl1 : 1 ≤ x.a.len := by omega))
  all_goals (try (have hl2 : x.a.len ≤ 9223372036854775807 := by omega))
  all_goals (try exact hl1)
  all_goals (try exact hl2)
  all_goals (try (have hq : 0 ≤ st.g x.i ∧ st.g x.i ≤ 65535 := by simp only [Int.toNat_natCast, Nat.zero_add] at *; omega))
  all_goals (try (have hq2 := hq; obtain ⟨l', e, hr, hl, hwy⟩ := r_in (n := st.f x.i) hi.2.2 hq (by omega)))
  all_goals (try (have et : Int.tmod (IntKind.i64.wrap (st.g x.i + t % 65536)) 65536 = (st.g x.i + t % 65536) % 65536 := by rw [w64' (by omega) (by omega), tmod_pos (by omega)]))
  any_goals first
    | (refine enter_mk (la := laR st (c1, c2, c3) (t % 65536)) ⟨0, sq0 c1 c2 c3 0, 0⟩ ?_ (by (repeat' (first | ((conv => whnf); first | refine ⟨?_, ?_⟩ | exact trivial | fail) | (dsimp only; done) | ((try dsimp only); first | with_reducible exact rfl | exact Nat.le_refl _ | with_reducible exact (fun _ _ => rfl)))); first | ((all_goals ((try dsimp only [laR] at *); (all_goals (try simp (disch := omega) only [w64', wu64', tdiv_pos, tmod_pos, Int.toNat_natCast, Nat.zero_add] at *)); (all_goals ((first | rfl | omega | exact (and16 t).symm))))); done) | fail))
    | (refine enter_mk (la := laR st (c1, c2, c3) (t % 65536)) ⟨x.i + 1, x.a, x.l⟩ ?_ (by (repeat' (first | ((conv => whnf); first | refine ⟨?_, ?_⟩ | exact trivial | fail) | (dsimp only; done) | ((try dsimp only); first | with_reducible exact rfl | exact Nat.le_refl _ | with_reducible exact (fun _ _ => rfl)))); first | ((all_goals ((try dsimp only [laR] at *); (all_goals (try simp (disch := omega) only [w64', wu64', tdiv_pos, tmod_pos, Int.toNat_natCast, Nat.zero_add] at *)); (all_goals ((first | rfl | omega | (rw [w64' (by omega) (by omega)]; omega)))))); done) | fail))
    | (refine enter_mk (la := laR st (c1, c2, c3) (t % 65536)) ⟨x.i + 1, (x.a.in_ (st.f x.i) (st.g x.i)).2.2, l'⟩ ?_ (by (repeat' (first | ((conv => whnf); first | refine ⟨?_, ?_⟩ | exact trivial | fail) | (dsimp only; done) | ((try dsimp only); first | with_reducible exact rfl | exact Nat.le_refl _ | with_reducible exact (fun _ _ => rfl)))); first | ((all_goals ((try dsimp only [laR] at *); (all_goals (try simp (disch := omega) only [w64', wu64', tdiv_pos, tmod_pos, Int.toNat_natCast, Nat.zero_add] at *)); (all_goals ((first | rfl | omega | (rw [w64' (by omega) (by omega)]; omega) | (rw [et, e]) | (rw [e])))))); done) | fail))
    | fail
  all_goals (try dsimp only [laR] at *)
  all_goals (try simp only [sq_eta, Int.toNat_natCast, Nat.zero_add] at *)
  all_goals (try omega)
  all_goals (try simp only [et, e] at *)
  all_goals first
    | exact ⟨Nat.zero_le _, ⟨rfl, rfl⟩, ⟨⟨Int.le_refl _, (by decide : (0 : Int) ≤ 65535)⟩, .inl rfl⟩⟩
    | exact ⟨by omega, hi.2.1, hi.2.2⟩
    | exact ⟨by omega, ⟨hl.trans hi.2.1.1, hwy.trans hi.2.1.2⟩, hr⟩
    | exact absurd rfl (by assumption)
    | exact absurd trivial (by assumption)
    | exact eq46
    | (exfalso; simp at *; done)

theorem own : ownKnob Try.prog.godebug = none := by kernel_rfl

set_option maxRecDepth 100000 in
theorem lifted (os : Os) (started : os.Started) (H : Type) (enc : TypeId × Value → H) :
    ReturnsInHanded {} Try.checked os 6 .any (Rows.seqrRoundSpec.pre6 enc Try.prog Try.f6 Rows.seqrRoundRow.domain false) (Rows.seqrRoundSpec.post enc Try.prog Try.f6 false true false false) := by
  refine returnsInHanded_of_change (C := Try.checked) own started (by kernel_rfl) Try.func6
    (ChangeSpec.witness6 (enc := enc) (C := Try.checked) false ⟨#[], #[.agg #[.int .i64 0, .int .i64 0, .int .i64 0], .slice none 0 0, .int .i64 0], []⟩ 8 (by kernel_rfl) (by kernel_rfl) (by kernel_rfl) (by kernel_rfl)) ?_
  intro W base args ds gs before hval0 hW hcnd _
  have hval : ∀ (j : Nat) t v, Try.f6.params[j]? = some t → args[j]? = some v → Value.okWide Try.prog W .any base t v := hval0
  have hW' := hW
  obtain ⟨p, q, hA0, hV, rfl, hfz, hnd⟩ := hW
  have hA : DataW.TrodAll enc Try.prog W 0 (fun _ => true) true Try.f6.params.toList args.toList ds p := hA0
  rw [Try.params6] at hA hval
  obtain ⟨v0, vs0, d0, ds0, p0, q0, hargs0, rfl, rfl, h0, r0⟩ := trodAll_cons hA
  obtain ⟨v1, vs1, d1, ds1, p1, q1, hargs1, rfl, rfl, h1, r1⟩ := trodAll_cons r0
  obtain ⟨v2, vs2, d2, ds2, p2, q2, hargs2, rfl, rfl, h2, r2⟩ := trodAll_cons r1
  obtain ⟨rfl, rfl, rfl⟩ := trodAll_nil r2
  obtain ⟨rfl, rfl⟩ := trodVars_none hV
  obtain rfl : args = #[v0, v1, v2] := by cases args; simp_all
  obtain ⟨cs0, hv0, hl0, hc0⟩ := agg_open (d := 6) (row := [some .i64, some .i64, some .i64]) (by kernel_rfl) (by kernel_rfl) (hval 0 34 v0 rfl rfl) h0
  have g0_0 := listIs_of hl0 hc0
  clear hl0 hc0
  obtain ⟨_, cs0_1, rfl, ⟨b0_0, rfl, w0_0⟩, g0_1⟩ := listIs_cons g0_0
  obtain ⟨_, cs0_2, rfl, ⟨b0_1, rfl, w0_1⟩, g0_2⟩ := listIs_cons g0_1
  obtain ⟨_, cs0_3, rfl, ⟨b0_2, rfl, w0_2⟩, g0_3⟩ := listIs_cons g0_2
  obtain rfl := listIs_nil g0_3
  subst hv0
  obtain ⟨A1, n1, c1, s1⟩ := slice_open (d := 6) (row := [some .i64, some .i64]) Try.underlying41 (by kernel_rfl) (by kernel_rfl) (hval 1 41 v1 rfl rfl) h1
  obtain ⟨a2, rfl, rfl, rfl, w2⟩ := open_int Try.underlying3 (hval 2 3 v2 rfl rfl) h2
  refine Calls.mono (law_calls mixed Try.func6 (runs b0_0 b0_1 b0_2 ⟨n1, c1, n1, fun r => intC W A1 (r * 2 + 0), fun r => intC W A1 (r * 2 + 1)⟩ a2 ⟨s1.le, Nat.le_refl _, s1.max⟩) (e := envOf [A1]) (rel_in1 s1.reg) (Nat.le_refl 1) (by rw [s1.val]; exact den_on.symm)) fun e W' ⟨he, hb⟩ => ?_
  subst he
  exact ⟨_, rfl, law_post hW' rfl rfl (by kernel_rfl) (by decide +kernel) rfl Try.underlying4 hb⟩

theorem over : Rows.seqrRoundRow.holds Try.pinned (OpenSpec.ofChange Rows.seqrRoundSpec) :=
  OpenClaim.holds_of_wide 6 Try.f6 rfl rfl rfl rfl rfl rfl rfl ⟨rfl, rfl, rfl, rfl, rfl⟩ rfl rfl rfl rfl rfl (by kernel_rfl) Try.func6 (by kernel_rfl)
    (of_decide_eq_true (by kernel_rfl)) (by unfold Func.isWrapper; first | (rw [if_pos (by decide +kernel)]; kernel_rfl) | (rw [if_neg (by decide +kernel)]; exact ⟨rfl, rfl⟩))
    (fun os started H enc _ => lifted os started H enc)

/-- SeqrRound -/
theorem proved : Rows.SeqrRoundSaid := over
#print axioms proved
end Go.Proofs.Ytlhlegjndembdaa.seqrRound
