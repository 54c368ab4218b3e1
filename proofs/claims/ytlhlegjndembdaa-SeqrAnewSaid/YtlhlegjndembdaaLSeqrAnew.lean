/-
  For every setup, all frames and numbers the law SeqrAnew answers true and leaves all memory as it was.
-/
import Derived.Test.YtlhlegjndembdaaSx
import Derived.Test.YtlhlegjndembdaaSeqA
import Derived.Test.YtlhlegjndembdaaSeqB
import Derived.Test.YtlhlegjndembdaaSeqC
import Derived.Test.YtlhlegjndembdaaRows
import Derived.WalkKit
import Derived.ProofKit
import Derived.OpenShut
namespace Go.Proofs.Ytlhlegjndembdaa.seqrAnew
open Go.ChangeShapes Go.WideShapes Go.ChangeAt Go.RowKit Go.Sx
set_option linter.unusedVariables false
set_option linter.unusedSimpArgs false
set_option maxRecDepth 100000

theorem and16 (a : Int) : bits .and .i64 a 65535 = a % 65536 := and_mask a 16 (by decide)
structure E2 (a b : Sq) : Prop where
  way : a.way = b.way
  len : a.len = b.len
  reset : a.reset = b.reset
  any : a.any = b.any
  last : a.last = b.last
  had : a.had = b.had
  wen : a.wen = b.wen
theorem outs_fst {len h l l' : Int} : ∀ n, (outs len n (h, l)).1 = (outs len n (h, l')).1
  | 0 => rfl
  | n + 1 => by simp only [outs, outW]; rw [outs_fst n]
theorem E2.turn {a b : Sq} (h : E2 a b) (n : Int) : E2 (a.turn n) (b.turn n) := by
  obtain ⟨h1, h2, h3, h4, h5, h6, h7⟩ := h
  unfold Sq.turn Sq.anew
  rw [h4, h7, h3]
  split
  · (constructor <;> first | rfl | assumption)
  · (constructor <;> first | rfl | assumption)
theorem E2.match_ {a b : Sq} (h : E2 a b) (q : Int) : (a.match_ q).1 = (b.match_ q).1 ∧ E2 (a.match_ q).2 (b.match_ q).2 := by
  obtain ⟨h1, h2, h3, h4, h5, h6, h7⟩ := h
  unfold Sq.match_
  rw [h1, h4, h5]
  split
  · split
    · exact ⟨rfl, by constructor <;> first | rfl | assumption⟩
    · exact ⟨rfl, by constructor <;> first | rfl | assumption⟩
  · exact ⟨rfl, by constructor <;> first | rfl | assumption⟩
theorem E2.vector {a b : Sq} (h : E2 a b) (q : Int) : (a.vector q).1 = (b.vector q).1 ∧ E2 (a.vector q).2 (b.vector q).2 := by
  obtain ⟨h1, h2, h3, h4, h5, h6, h7⟩ := h
  unfold Sq.vector
  rw [h2, h4, h5, h6]
  dsimp only
  split
  · exact ⟨rfl, by constructor <;> first | rfl | assumption⟩
  · split
    · exact ⟨rfl, by constructor <;> first | rfl | assumption⟩
    · split
      · split
        · exact ⟨rfl, by constructor <;> first | rfl | assumption⟩
        · exact ⟨rfl, by constructor <;> first | rfl | assumption⟩
      · refine ⟨rfl, ?_⟩
        constructor <;> first | rfl | assumption | (dsimp only; rw [outs_fst (l := a.lost) (l' := b.lost)])
theorem E2.in_ {a b : Sq} (h : E2 a b) {n q : Int} (hq : 0 ≤ q ∧ q ≤ 65535) : (a.in_ n q).1 = (b.in_ n q).1 ∧ (a.in_ n q).2.1 = (b.in_ n q).2.1 ∧ E2 (a.in_ n q).2.2 (b.in_ n q).2.2 := by
  have t1 := h.turn n
  obtain ⟨e2, t2⟩ := t1.match_ q
  obtain ⟨e3, t3⟩ := t2.vector q
  have em : (a.mid n q).1 = (b.mid n q).1 ∧ E2 (a.mid n q).2 (b.mid n q).2 := by
    unfold Sq.mid
    rw [t2.way]
    split
    · exact ⟨e3, t3⟩
    · exact ⟨e2, t2⟩
  obtain ⟨e4, f1, f2, f3, f4, f5, f6, f7⟩ := em
  rw [in_mid (s := a) (n := n) (q := q) (w := (a.mid n q).1) (t := (a.mid n q).2) (by omega) rfl, in_mid (s := b) (n := n) (q := q) (w := (b.mid n q).1) (t := (b.mid n q).2) (by omega) rfl]
  unfold Sq.fin Sq.bump
  dsimp only
  refine ⟨e4, rfl, ?_⟩
  rw [e4]
  split
  · constructor <;> first | rfl | assumption
  · constructor <;> first | rfl | assumption
/-- what stays of the setup; a window of one that goes by the last number alone is empty -/
structure AV (c1 c2 c3 : Int) (a : Sq) (now : Int) : Prop where
  way : a.way = c1
  len : a.len = c2
  reset : a.reset = c3
  had : c1 = 1 → a.had = 0
  wen : 0 ≤ a.wen ∧ a.wen ≤ now
theorem AV.anew {c1 c2 c3 now : Int} {a : Sq} (h : AV c1 c2 c3 a now) : AV c1 c2 c3 a.anew now := ⟨h.way, h.len, h.reset, fun _ => rfl, h.wen⟩
theorem AV.in_ {c1 c2 c3 now n q : Int} {a : Sq} (h : AV c1 c2 c3 a now) (hn : now ≤ n) (hq : 0 ≤ q ∧ q ≤ 65535) : AV c1 c2 c3 (a.in_ n q).2.2 n := by
  have t1 : AV c1 c2 c3 (a.turn n) n := by
    unfold Sq.turn
    have := h.wen
    split
    · exact ⟨h.way, h.len, h.reset, fun _ => rfl, by show 0 ≤ a.wen; omega, by show a.wen ≤ n; omega⟩
    · exact ⟨h.way, h.len, h.reset, h.had, by omega, by omega⟩
  have t2 : AV c1 c2 c3 ((a.turn n).match_ q).2 n := by
    unfold Sq.match_
    split
    · split
      · exact t1
      · exact ⟨t1.way, t1.len, t1.reset, t1.had, t1.wen⟩
    · exact t1
  have t3 : c1 ≠ 1 → AV c1 c2 c3 (((a.turn n).match_ q).2.vector q).2 n := by
    intro hc
    generalize ((a.turn n).match_ q).2 = s at *
    unfold Sq.vector
    dsimp only
    split
    · exact ⟨t2.way, t2.len, t2.reset, fun h => absurd h hc, t2.wen⟩
    · split
      · exact t2
      · split
        · split
          · exact ⟨t2.way, t2.len, t2.reset, fun h => absurd h hc, t2.wen⟩
          · exact t2
        · exact ⟨t2.way, t2.len, t2.reset, fun h => absurd h hc, t2.wen⟩
  have t4 : AV c1 c2 c3 (a.mid n q).2 n := by
    unfold Sq.mid
    split
    · rename_i hw
      exact t3 (by have := t2.way; omega)
    · exact t2
  rw [in_mid (s := a) (n := n) (q := q) (w := (a.mid n q).1) (t := (a.mid n q).2) (by omega) rfl]
  have h0 := h.wen
  unfold Sq.fin Sq.bump
  dsimp only
  split
  · exact ⟨t4.way, t4.len, t4.reset, t4.had, by show 0 ≤ n; omega, Int.le_refl _⟩
  · exact ⟨t4.way, t4.len, t4.reset, t4.had, t4.wen⟩
/-- all is new for it at a time -/
def New1 (a : Sq) (now : Int) : Prop := a.any = true ∨ (a.wen ≤ now ∧ a.reset ≤ now - a.wen)
theorem any_in {c1 c2 c3 now n q : Int} {a : Sq} (h : AV c1 c2 c3 a now) (hn : now ≤ n) (hn2 : n ≤ 4611686018427387904) (hc : (c1 = 0 ∨ c1 = 1) ∧ 0 ≤ c3 ∧ c3 ≤ 1099511627776) (hq : 0 ≤ q ∧ q ≤ 65535) (h1 : New1 a n) :
    (a.in_ n q).1 = 0 ∧ (a.in_ n q).2.1 = 0 ∧ (a.in_ n q).2.2.any = false ∧ (a.in_ n q).2.2.last = q ∧ (a.in_ n q).2.2.had = (if c1 = 0 then 1 else 0) ∧ (a.in_ n q).2.2.wen = n := by
  have h0 := h.wen
  have hr := h.reset
  have t1 : (a.turn n).any = true ∧ (a.turn n).way = c1 ∧ (c1 = 1 → (a.turn n).had = 0) := by
    unfold Sq.turn
    by_cases ha : a.any = true
    · rw [if_neg (fun h9 => by rw [ha] at h9; cases h9.1)]
      exact ⟨ha, h.way, h.had⟩
    · have h2 := h1.resolve_left ha
      have h3 : IntKind.u64.wrap a.reset = a.reset := wu64' (by omega) (by omega)
      have h4 : IntKind.u64.wrap n = n := wu64' (by omega) (by omega)
      have h5 : IntKind.u64.wrap a.wen = a.wen := wu64' (by omega) (by omega)
      have h6 : IntKind.u64.wrap (n - a.wen) = n - a.wen := wu64' (by omega) (by omega)
      rw [if_pos ⟨by simpa using ha, h2.1, by rw [h3, h4, h5, h6]; exact h2.2⟩]
      exact ⟨rfl, h.way, fun _ => rfl⟩
  obtain ⟨u1, u2, u3⟩ := t1
  have t4 : a.mid n q = (0, if c1 = 0 then { a.turn n with last := q, had := 1 } else { a.turn n with last := q }) := by
    rcases hc.1 with h9 | h9
    · subst h9
      have tm : (a.turn n).match_ q = (0, a.turn n) := by unfold Sq.match_; exact if_neg (by rw [u2]; decide)
      unfold Sq.mid
      rw [tm, if_pos u2, if_pos rfl]
      unfold Sq.vector
      exact if_pos u1
    · subst h9
      have tm : (a.turn n).match_ q = (0, { a.turn n with last := q }) := by
        unfold Sq.match_
        rw [if_pos u2, if_neg (fun h9 => by rw [u1] at h9; cases h9.1)]
      unfold Sq.mid
      rw [tm, if_neg (fun h9 => by rw [show ({ a.turn n with last := q } : Sq).way = (a.turn n).way from rfl, u2] at h9; cases h9), if_neg (by decide)]
  rw [in_mid (by omega) t4]
  unfold Sq.fin Sq.bump
  dsimp only
  rw [if_pos (Or.inl rfl)]
  rcases hc.1 with h9 | h9
  · subst h9
    exact ⟨rfl, rfl, rfl, rfl, rfl, rfl⟩
  · subst h9
    exact ⟨rfl, rfl, rfl, rfl, u3 rfl, rfl⟩
theorem first_in {c1 c2 c3 now n q : Int} {a b : Sq} (h : AV c1 c2 c3 a now) (hb : AV c1 c2 c3 b now) (hn : now ≤ n) (hn2 : n ≤ 4611686018427387904) (hc : (c1 = 0 ∨ c1 = 1) ∧ 0 ≤ c3 ∧ c3 ≤ 1099511627776) (hq : 0 ≤ q ∧ q ≤ 65535) (h1 : New1 a n) (h2 : New1 b n) :
    (a.in_ n q).1 = (b.in_ n q).1 ∧ (a.in_ n q).2.1 = (b.in_ n q).2.1 ∧ E2 (a.in_ n q).2.2 (b.in_ n q).2.2 ∧ (a.in_ n q).1 = 0 := by
  obtain ⟨e1, e2, e3, e4, e5, e6⟩ := any_in h hn hn2 hc hq h1
  obtain ⟨f1, f2, f3, f4, f5, f6⟩ := any_in hb hn hn2 hc hq h2
  have ga := h.in_ hn hq
  have gb := hb.in_ hn hq
  exact ⟨by rw [e1, f1], by rw [e2, f2], ⟨by rw [ga.way, gb.way], by rw [ga.len, gb.len], by rw [ga.reset, gb.reset], by rw [e3, f3], by rw [e4, f4], by rw [e5, f5], by rw [e6, f6]⟩, e1⟩
theorem AV.mono {c1 c2 c3 now n : Int} {a : Sq} (h : AV c1 c2 c3 a now) (hn : now ≤ n) : AV c1 c2 c3 a n := ⟨h.way, h.len, h.reset, h.had, h.wen.1, Int.le_trans h.wen.2 hn⟩
theorem sq0_av {c1 c2 c3 n : Int} (hn : 0 ≤ n) : AV c1 c2 c3 (sq0 c1 c2 c3 0) n := ⟨rfl, rfl, rfl, fun _ => rfl, Int.le_refl _, hn⟩
theorem both_in {c1 c2 c3 now q : Int} {i : Nat} {a b : Sq} (hn : 0 ≤ now ∧ now ≤ 4398046511104) (h : AV c1 c2 c3 a now) (hb : AV c1 c2 c3 b now) (hc : (c1 = 0 ∨ c1 = 1) ∧ 0 ≤ c3 ∧ c3 ≤ 1099511627776) (hq : 0 ≤ q ∧ q ≤ 65535) (h5 : i = 0 → New1 a now ∧ New1 b now) (h6 : 0 < i → E2 a b) :
    (a.in_ now q).1 = (b.in_ now q).1 ∧ (a.in_ now q).2.1 = (b.in_ now q).2.1 ∧ E2 (a.in_ now q).2.2 (b.in_ now q).2.2 ∧ (i = 0 → (a.in_ now q).1 = 0) := by
  by_cases h0 : i = 0
  · obtain ⟨e1, e2, e3, e4⟩ := first_in h hb (Int.le_refl _) (by omega) hc hq (h5 h0).1 (h5 h0).2
    exact ⟨e1, e2, e3, fun _ => e4⟩
  · obtain ⟨e1, e2, e3⟩ := (h6 (by omega)).in_ (n := now) hq
    exact ⟨e1, e2, e3, fun h => absurd h h0⟩
structure ST where
  len : Nat
  cap : Nat
  N : Nat
  f : Nat → Int
  g : Nat → Int
def roT (a : ST) : Option Reg := some ⟨false, .tab a.N [.int .i64 a.f, .int .i64 a.g]⟩
def roQ (a : IS) : Option Reg := some ⟨false, .tab a.N [.int .i64 a.g]⟩
def Tw (a : ST) : Prop := a.len ≤ a.cap ∧ a.len ≤ a.N ∧ a.cap ≤ 9223372036854775807
def Qw (a : IS) : Prop := a.len ≤ a.cap ∧ a.len ≤ a.N ∧ a.cap ≤ 9223372036854775807
def cfV (c : Int × Int × Int) : SV := .one (.agg [i_ c.1, i_ c.2.1, i_ c.2.2])
theorem den_th {x y z : Int} {A B : Option Addr} {n cap m d : Nat} {r : Bool} : #[(cfV (x, y, z)).den (envOf [A, B]), SV.den (envOf [A, B]) (.one (.a (.slc 0 2 0 n cap))), SV.den (envOf [A, B]) (.one (.a (.slc 1 1 0 m d))), SV.den (envOf [A, B]) (.one (.a (.v (.bool r))))] = #[.agg #[.int .i64 x, .int .i64 y, .int .i64 z], .slice A n cap, .slice B m d, .bool r] := by
  show #[Value.agg _, SA.den (envOf [A, B]) (.slc 0 2 0 n cap), SA.den (envOf [A, B]) (.slc 1 1 0 m d), _] = _
  rw [den_slc (A := A) rfl, den_slc (A := B) rfl]; rfl
structure AZ where
  i : Nat
  now : Int
  a : Sq
abbrev laA (st : ST) (sq : IS) (c : Int × Int × Int) (rs : Bool) : LA where
  ι := AZ
  inv := fun x => x.i ≤ st.len ∧ (0 ≤ x.now ∧ x.now ≤ 65535 * x.i) ∧ AV c.1 c.2.1 c.2.2 x.a x.now
  T := fun x => ⟨118, [(2, .one (.a (.slc 1 1 0 sq.len sq.cap))), (3, .one (.a (.v (.bool rs)))), (4, .one (.a (.ptr 2 0))), (9, .one (.a (.ptr 3 0))), (11, .one (.a (.ptr 4 0))), (13, int_ .i64 x.now), (53, .one (.a (.slc 0 2 0 st.len st.cap))), (54, int_ .i64 st.len), (55, int_ .i64 x.i)], [roT st, roQ sq, some ⟨true, .flat [i_ c.1, i_ c.2.1, i_ c.2.2]⟩, some ⟨true, .flat x.a.cells⟩, some ⟨true, .flat (sq0 c.1 c.2.1 c.2.2 0).cells⟩]⟩
  μ := fun x => st.len - x.i
  ren := fun S => [0, 1, S.ix 4, S.ix 9, S.ix 11]
structure BZ where
  i : Nat
  now : Int
  a : Sq
  b : Sq
abbrev laB (sq : IS) (c : Int × Int × Int) : LA where
  ι := BZ
  inv := fun x => x.i ≤ sq.len ∧ (0 ≤ x.now ∧ x.now ≤ 4398046511104) ∧ (AV c.1 c.2.1 c.2.2 x.a x.now ∧ AV c.1 c.2.1 c.2.2 x.b x.now) ∧ (x.i = 0 → New1 x.a x.now ∧ New1 x.b x.now) ∧ (0 < x.i → E2 x.a x.b)
  T := fun x => ⟨118, [(9, .one (.a (.ptr 2 0))), (11, .one (.a (.ptr 3 0))), (13, int_ .i64 x.now), (78, .one (.a (.slc 1 1 0 sq.len sq.cap))), (79, int_ .i64 sq.len), (80, int_ .i64 x.i)], [none, roQ sq, some ⟨true, .flat x.a.cells⟩, some ⟨true, .flat x.b.cells⟩]⟩
  μ := fun x => sq.len - x.i
  ren := fun S => [0, 1, S.ix 9, S.ix 11]
noncomputable def cxL (st : ST) (sq : IS) (c : Int × Int × Int) (rs : Bool) : Cx Try.prog := { ps := [hdS, chkCS], es := [inS, resetS], is := [inl fn15 cxNew], n0 := 2, loops := fun i => match i with | 11 => some (.inv (laA st sq c rs)) | 20 => some (.inv (laB sq c)) | _ => none, cuts := fun _ => none }
attribute [local irreducible] enter anyAlt
set_option maxHeartbeats 16000000 in
theorem runs (c1 c2 c3 : Int) (st : ST) (sq : IS) (rs : Bool) (hw : Tw st) (hv : Qw sq) : Runs (cxL st sq (c1, c2, c3) rs) Try.f5 [cfV (c1, c2, c3), .one (.a (.slc 0 2 0 st.len st.cap)), .one (.a (.slc 1 1 0 sq.len sq.cap)), .one (.a (.v (.bool rs)))] [roT st, roQ sq] yes := by
  obtain ⟨w1, w2, w3⟩ := hw
  obtain ⟨v1, v2, v3⟩ := hv
  repeat' (first | with_reducible exact trivial | with_reducible exact rfl | with_reducible exact Nat.le_refl _ | with_reducible exact (fun _ _ => rfl) | ((conv => whnf); first | (refine fun (x : AZ) => ?_) | (refine fun (y : BZ) => ?_) | (refine fun _ => ?_) | refine ⟨?_, ?_⟩ | exact trivial | exact Nat.le_refl _ | exact lex_q (by kernel_rfl) | exact lex_t (by kernel_rfl) | exact lex_h (by kernel_rfl) | fail))
  all_goals (try (have hi := (by assumption : (laA st sq (c1, c2, c3) rs).inv x); dsimp only [laA] at hi))
  all_goals (try (have hj := (by assumption : (laB sq (c1, c2, c3)).inv y); dsimp only [laB] at hj))
  all_goals (try exact absurd (by assumption : (!true) = true) (by decide))
  all_goals (try exact absurd (by assumption : ¬ chkC (c1, c2, c3) = 0) (by assumption))
  all_goals (try exact absurd rfl (by assumption : ¬ (0 : Int) = 0))
  all_goals (have hc := cf_of (by assumption : ¬ ¬ chkC (c1, c2, c3) = 0))
  all_goals (unfold CfOK at hc; dsimp only at hc)
  all_goals (try (have hl1 : 1 ≤ x.a.len := by rw [hi.2.2.len]; omega))
  all_goals (try (have hl2 : x.a.len ≤ 9223372036854775807 := by rw [hi.2.2.len]; omega))
  all_goals (try (have hl3 : 1 ≤ y.a.len := by rw [hj.2.2.1.1.len]; omega))
  all_goals (try (have hl4 : y.a.len ≤ 9223372036854775807 := by rw [hj.2.2.1.1.len]; omega))
  all_goals (try (have hl5 : 1 ≤ y.b.len := by rw [hj.2.2.1.2.len]; omega))
  all_goals (try (have hl6 : y.b.len ≤ 9223372036854775807 := by rw [hj.2.2.1.2.len]; omega))
  all_goals (try first | exact hl3 | exact hl4 | exact hl5 | exact hl6 | exact hl1 | exact hl2)
  all_goals (try (have wA : IntKind.i64.wrap (x.now + st.f x.i % 65536) = x.now + st.f x.i % 65536 := w64' (by omega) (by omega)))
  all_goals (try (have wB : IntKind.i64.wrap (x.now + c3) = x.now + c3 := w64' (by omega) (by omega)))
  any_goals first
    | (refine enter_mk (la := laB sq (c1, c2, c3)) ⟨y.i + 1, y.now, (y.a.in_ y.now (sq.g y.i % 65536)).2.2, (y.b.in_ y.now (sq.g y.i % 65536)).2.2⟩ ?_ (by (repeat' (first | ((conv => whnf); first | refine ⟨?_, ?_⟩ | exact trivial | fail) | (dsimp only; done) | ((try dsimp only); first | with_reducible exact rfl | exact Nat.le_refl _ | with_reducible exact (fun _ _ => rfl)))); first | ((all_goals ((try dsimp only [laB] at *); (all_goals (try simp (disch := omega) only [w64', wu64', tdiv_pos, tmod_pos, Int.toNat_natCast, Nat.zero_add] at *)); (all_goals ((first | rfl | omega | (rw [w64' (by omega) (by omega)]; omega) | (simp only [and16]; done)))))); done) | fail))
    | (refine enter_mk (la := laA st sq (c1, c2, c3) rs) ⟨x.i + 1, x.now + st.f x.i % 65536, (x.a.in_ (x.now + st.f x.i % 65536) (st.g x.i % 65536)).2.2⟩ ?_ (by (repeat' (first | ((conv => whnf); first | refine ⟨?_, ?_⟩ | exact trivial | fail) | (dsimp only; done) | ((try dsimp only); first | with_reducible exact rfl | exact Nat.le_refl _ | with_reducible exact (fun _ _ => rfl)))); first | ((all_goals ((try dsimp only [laA] at *); (all_goals (try simp (disch := omega) only [w64', wu64', tdiv_pos, tmod_pos, Int.toNat_natCast, Nat.zero_add] at *)); (all_goals ((first | rfl | omega | (rw [w64' (by omega) (by omega)]; omega) | (simp only [and16]; rw [w64' (n := x.now + st.f x.i % 65536) (by omega) (by omega)]) | (simp only [and16]; rw [w64' (n := x.now + st.f x.i % 65536) (by omega) (by omega)]; rfl)))))); done) | fail))
    | (refine enter_mk (la := laA st sq (c1, c2, c3) rs) ⟨0, 0, sq0 c1 c2 c3 0⟩ ?_ (by (repeat' (first | ((conv => whnf); first | refine ⟨?_, ?_⟩ | exact trivial | fail) | (dsimp only; done) | ((try dsimp only); first | with_reducible exact rfl | exact Nat.le_refl _ | with_reducible exact (fun _ _ => rfl)))); first | ((all_goals ((try dsimp only [laA] at *); (all_goals (try simp (disch := omega) only [w64', wu64', tdiv_pos, tmod_pos, Int.toNat_natCast, Nat.zero_add] at *)); (all_goals ((first | rfl | omega))))); done) | fail))
    | (refine enter_mk (la := laB sq (c1, c2, c3)) ⟨0, x.now, x.a.anew, sq0 c1 c2 c3 0⟩ ?_ (by (repeat' (first | ((conv => whnf); first | refine ⟨?_, ?_⟩ | exact trivial | fail) | (dsimp only; done) | ((try dsimp only); first | with_reducible exact rfl | exact Nat.le_refl _ | with_reducible exact (fun _ _ => rfl)))); first | ((all_goals ((try dsimp only [laB] at *); (all_goals (try simp (disch := omega) only [w64', wu64', tdiv_pos, tmod_pos, Int.toNat_natCast, Nat.zero_add] at *)); (all_goals ((first | rfl | omega))))); done) | fail))
    | (refine enter_mk (la := laB sq (c1, c2, c3)) ⟨0, x.now + c3, x.a, sq0 c1 c2 c3 0⟩ ?_ (by (repeat' (first | ((conv => whnf); first | refine ⟨?_, ?_⟩ | exact trivial | fail) | (dsimp only; done) | ((try dsimp only); first | with_reducible exact rfl | exact Nat.le_refl _ | with_reducible exact (fun _ _ => rfl)))); first | ((all_goals ((try dsimp only [laB] at *); (all_goals (try simp (disch := omega) only [w64', wu64', tdiv_pos, tmod_pos, Int.toNat_natCast, Nat.zero_add] at *)); (all_goals ((first | rfl | omega | exact wB.symm | exact wB))))); done) | fail))
    | fail
  all_goals (try dsimp only [laA, laB] at *)
  all_goals (try simp only [sq_eta, and16, Int.toNat_natCast, Nat.zero_add] at *)
  all_goals (try omega)
  all_goals (have hcc : (c1 = 0 ∨ c1 = 1) ∧ 0 ≤ c3 ∧ c3 ≤ 1099511627776 := ⟨hc.1, by omega, hc.2.2.2⟩)
  all_goals (try (have hq : 0 ≤ sq.g y.i % 65536 ∧ sq.g y.i % 65536 ≤ 65535 := by omega))
  all_goals (try (have k := both_in hj.2.1 hj.2.2.1.1 hj.2.2.1.2 hcc hq hj.2.2.2.1 hj.2.2.2.2))
  all_goals first
    | exact ⟨Nat.zero_le _, ⟨by omega, by omega⟩, sq0_av (Int.le_refl _)⟩
    | exact ⟨by omega, ⟨by omega, by omega⟩, hi.2.2.in_ (by omega) ⟨by omega, by omega⟩⟩
    | exact ⟨Nat.zero_le _, ⟨by omega, by omega⟩, ⟨hi.2.2.anew, sq0_av (by omega)⟩, fun _ => ⟨.inl rfl, .inl rfl⟩, fun h => absurd h (Nat.lt_irrefl _)⟩
    | exact ⟨Nat.zero_le _, ⟨by omega, by omega⟩, ⟨hi.2.2.mono (by omega), sq0_av (by omega)⟩, fun _ => ⟨.inr ⟨by have := hi.2.2.wen; omega, by have := hi.2.2.wen; have := hi.2.2.reset; omega⟩, .inl rfl⟩, fun h => absurd h (Nat.lt_irrefl _)⟩
    | exact absurd k.1 (by assumption)
    | exact absurd k.2.1 (by assumption)
    | exact absurd (k.2.2.2 (by omega)) (by assumption)
    | exact ⟨by omega, hj.2.1, ⟨hj.2.2.1.1.in_ (Int.le_refl _) hq, hj.2.2.1.2.in_ (Int.le_refl _) hq⟩, fun h => absurd h (by omega), fun _ => k.2.2.1⟩

theorem own : ownKnob Try.prog.godebug = none := by kernel_rfl

set_option maxRecDepth 100000 in
theorem lifted (os : Os) (started : os.Started) (H : Type) (enc : TypeId × Value → H) :
    ReturnsInHanded {} Try.checked os 5 .any (Rows.seqrAnewSpec.pre6 enc Try.prog Try.f5 Rows.seqrAnewRow.domain false) (Rows.seqrAnewSpec.post enc Try.prog Try.f5 false true false false) := by
  refine returnsInHanded_of_change (C := Try.checked) own started (by kernel_rfl) Try.func5
    (ChangeSpec.witness6 (enc := enc) (C := Try.checked) false ⟨#[], #[.agg #[.int .i64 0, .int .i64 0, .int .i64 0], .slice none 0 0, .slice none 0 0, .bool false], []⟩ 8 (by kernel_rfl) (by kernel_rfl) (by kernel_rfl) (by kernel_rfl)) ?_
  intro W base args ds gs before hval0 hW hcnd _
  have hval : ∀ (j : Nat) t v, Try.f5.params[j]? = some t → args[j]? = some v → Value.okWide Try.prog W .any base t v := hval0
  have hW' := hW
  obtain ⟨p, q, hA0, hV, rfl, hfz, hnd⟩ := hW
  have hA : DataW.TrodAll enc Try.prog W 0 (fun _ => true) true Try.f5.params.toList args.toList ds p := hA0
  rw [Try.params5] at hA hval
  obtain ⟨v0, vs0, d0, ds0, p0, q0, hargs0, rfl, rfl, h0, r0⟩ := trodAll_cons hA
  obtain ⟨v1, vs1, d1, ds1, p1, q1, hargs1, rfl, rfl, h1, r1⟩ := trodAll_cons r0
  obtain ⟨v2, vs2, d2, ds2, p2, q2, hargs2, rfl, rfl, h2, r2⟩ := trodAll_cons r1
  obtain ⟨v3, vs3, d3, ds3, p3, q3, hargs3, rfl, rfl, h3, r3⟩ := trodAll_cons r2
  obtain ⟨rfl, rfl, rfl⟩ := trodAll_nil r3
  obtain ⟨rfl, rfl⟩ := trodVars_none hV
  obtain rfl : args = #[v0, v1, v2, v3] := by cases args; simp_all
  obtain ⟨cs0, hv0, hl0, hc0⟩ := agg_open (d := 6) (row := [some .i64, some .i64, some .i64]) (by kernel_rfl) (by kernel_rfl) (hval 0 34 v0 rfl rfl) h0
  have g0_0 := listIs_of hl0 hc0
  clear hl0 hc0
  obtain ⟨_, cs0_1, rfl, ⟨b0_0, rfl, w0_0⟩, g0_1⟩ := listIs_cons g0_0
  obtain ⟨_, cs0_2, rfl, ⟨b0_1, rfl, w0_1⟩, g0_2⟩ := listIs_cons g0_1
  obtain ⟨_, cs0_3, rfl, ⟨b0_2, rfl, w0_2⟩, g0_3⟩ := listIs_cons g0_2
  obtain rfl := listIs_nil g0_3
  subst hv0
  obtain ⟨A1, n1, c1, s1⟩ := slice_open (d := 6) (row := [some .i64, some .i64]) Try.underlying41 (by kernel_rfl) (by kernel_rfl) (hval 1 41 v1 rfl rfl) h1
  obtain ⟨A2, n2, c2, s2⟩ := slice_open (d := 6) (row := [some .i64]) Try.underlying27 (by kernel_rfl) (by kernel_rfl) (hval 2 27 v2 rfl rfl) h2
  obtain ⟨a3, rfl, rfl, rfl⟩ := open_bool Try.underlying4 (hval 3 4 v3 rfl rfl) h3
  refine Calls.mono (law_calls mixed Try.func5 (runs b0_0 b0_1 b0_2 ⟨n1, c1, n1, fun r => intC W A1 (r * 2 + 0), fun r => intC W A1 (r * 2 + 1)⟩ ⟨n2, c2, n2, fun r => intC W A2 (r * 1 + 0)⟩ a3 ⟨s1.le, Nat.le_refl _, s1.max⟩ ⟨s2.le, Nat.le_refl _, s2.max⟩) (e := envOf [A1, A2]) (rel_in2 s1.reg s2.reg) (Nat.le_refl 2) (by rw [s1.val, s2.val]; exact den_th.symm)) fun e W' ⟨he, hb⟩ => ?_
  subst he
  exact ⟨_, rfl, law_post hW' rfl rfl (by kernel_rfl) (by decide +kernel) rfl Try.underlying4 hb⟩

theorem over : Rows.seqrAnewRow.holds Try.pinned (OpenSpec.ofChange Rows.seqrAnewSpec) :=
  OpenClaim.holds_of_wide 5 Try.f5 rfl rfl rfl rfl rfl rfl rfl ⟨rfl, rfl, rfl, rfl, rfl⟩ rfl rfl rfl rfl rfl (by kernel_rfl) Try.func5 (by kernel_rfl)
    (of_decide_eq_true (by kernel_rfl)) (by unfold Func.isWrapper; first | (rw [if_pos (by decide +kernel)]; kernel_rfl) | (rw [if_neg (by decide +kernel)]; exact ⟨rfl, rfl⟩))
    (fun os started H enc _ => lifted os started H enc)

/-- SeqrAnew -/
theorem proved : Rows.SeqrAnewSaid := over
#print axioms proved
end Go.Proofs.Ytlhlegjndembdaa.seqrAnew
