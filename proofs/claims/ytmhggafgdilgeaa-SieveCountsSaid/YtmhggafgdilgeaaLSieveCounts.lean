/-
  For all streams and steps the law SieveCounts answers true and leaves all memory as it was.
-/
import Derived.Test.YtmhggafgdilgeaaSx
import Derived.Test.YtmhggafgdilgeaaSieH
import Derived.Test.YtmhggafgdilgeaaRows
import Derived.WalkKit
import Derived.ProofKit
import Derived.OpenShut
namespace Go.Proofs.Ytmhggafgdilgeaa.sieveCounts
open Go.ChangeShapes Go.WideShapes Go.ChangeAt Go.RowKit Go.Sx
set_option linter.unusedVariables false
set_option linter.unusedSimpArgs false
set_option maxRecDepth 100000

structure SS where
  len : Nat
  cap : Nat
  N : Nat
  op : Nat → Bool
  i : Nat → Int
  now : Nat → Int
  po : Nat → Int
  vid : Nat → Int
  d0 : Nat → Int
  d1 : Nat → Int
  d2 : Nat → Int
  d3 : Nat → Int
  d4 : Nat → Int
  d5 : Nat → Int
  s0 : Nat → Int
  s1 : Nat → Int
  s2 : Nat → Int
  s3 : Nat → Int
  s4 : Nat → Int
  s5 : Nat → Int
  pr : Nat → Int
  sz : Nat → Int
def roT (s : SS) : Option Reg := some ⟨false, .tab s.N [.bool s.op, .int .i64 s.i, .int .i64 s.now, .int .i64 s.po, .int .i64 s.vid, .int .u8 s.d0, .int .u8 s.d1, .int .u8 s.d2, .int .u8 s.d3, .int .u8 s.d4, .int .u8 s.d5, .int .u8 s.s0, .int .u8 s.s1, .int .u8 s.s2, .int .u8 s.s3, .int .u8 s.s4, .int .u8 s.s5, .int .i64 s.pr, .int .i64 s.sz]⟩
def Tw (a : SS) : Prop := a.len ≤ a.cap ∧ a.len ≤ a.N ∧ a.cap ≤ 9223372036854775807
theorem den_on {A B : Option Addr} {n cap k cap2 : Nat} : #[SV.den (envOf [A, B]) (.one (.a (.slc 0 14 0 n cap))), SV.den (envOf [A, B]) (.one (.a (.slc 1 19 0 k cap2)))] = #[.slice A n cap, .slice B k cap2] := by
  show #[SA.den (envOf [A, B]) (.slc 0 14 0 n cap), SA.den (envOf [A, B]) (.slc 1 19 0 k cap2)] = _
  rw [den_slc (A := A) rfl, den_slc (A := B) rfl]
def yAt (s : SS) (r : Nat) : InA := ⟨s.now r, s.po r, s.vid r, ⟨s.d0 r, s.d1 r, s.d2 r, s.d3 r, s.d4 r, s.d5 r⟩, ⟨s.s0 r, s.s1 r, s.s2 r, s.s3 r, s.s4 r, s.s5 r⟩, s.pr r, s.sz r⟩
/-! what is counted -/
def rowS (g : Nat → Nat → Int) (r : Nat) : Int := g 0 r + g 1 r + g 2 r + g 3 r + g 4 r + g 5 r
def tot (g : Nat → Nat → Int) : Nat → Int
  | 0 => 0
  | m + 1 => tot g m + rowS g m
theorem row_up {g : Nat → Nat → Int} {k i : Nat} (hk : k < 6) (hw : IntKind.i64.wrap (g k i + 1) = g k i + 1) (r : Nat) : rowS (upC g k i) r = rowS g r + if r = i then 1 else 0 := by
  unfold rowS upC
  rw [hw]
  by_cases hr : r = i
  · subst hr
    rcases (by omega : k = 0 ∨ k = 1 ∨ k = 2 ∨ k = 3 ∨ k = 4 ∨ k = 5) with rfl | rfl | rfl | rfl | rfl | rfl <;> simp <;> omega
  · simp [hr]
theorem tot_up {g : Nat → Nat → Int} {k i : Nat} (hk : k < 6) (hw : IntKind.i64.wrap (g k i + 1) = g k i + 1) : ∀ m, tot (upC g k i) m = tot g m + if i < m then 1 else 0
  | 0 => rfl
  | m + 1 => by
    have ih := tot_up hk hw m
    show tot (upC g k i) m + rowS (upC g k i) m = tot g m + rowS g m + _
    rw [ih, row_up hk hw]
    by_cases h1 : i < m
    · rw [if_pos h1, if_neg (by omega : ¬ m = i), if_pos (by omega : i < m + 1)]; omega
    · by_cases h2 : m = i
      · rw [if_neg h1, if_pos h2, if_pos (by omega : i < m + 1)]; omega
      · rw [if_neg h1, if_neg h2, if_neg (by omega : ¬ i < m + 1)]; omega
theorem tot_in {g : Nat → Nat → Int} {n : Int} (h : ∀ k r, 0 ≤ g k r ∧ g k r ≤ n) : ∀ m, 0 ≤ tot g m ∧ tot g m ≤ 6 * n * m
  | 0 => ⟨Int.le_refl _, by show (0 : Int) ≤ 6 * n * ((0 : Nat) : Int); simp⟩
  | m + 1 => by
    have ih := tot_in h m
    have h0 := h 0 m; have h1 := h 1 m; have h2 := h 2 m; have h3 := h 3 m; have h4 := h 4 m; have h5 := h 5 m
    show 0 ≤ tot g m + rowS g m ∧ tot g m + rowS g m ≤ 6 * n * ((m + 1 : Nat) : Int)
    have e : 6 * n * ((m + 1 : Nat) : Int) = 6 * n * m + 6 * n := by rw [Int.natCast_succ, Int.mul_add, Int.mul_one]
    rw [e]
    unfold rowS
    generalize 6 * n * (m : Int) = q at *
    omega
structure CI (y : SI) (m : Nat) (t : Sv) : Prop where
  n : t.n = y.len
  sm : ∀ r, r < y.len → same t.c y.c r
  ct : ∀ k r, 0 ≤ t.ct k r ∧ t.ct k r ≤ (m : Int)
  tot : tot t.ct (y.len + 1) = m
theorem tot_z (g : Nat → Nat → Int) : tot g 0 = 0 := rfl
theorem tot_0 : ∀ m, tot (fun _ _ => 0) m = 0
  | 0 => rfl
  | m + 1 => by show tot (fun _ _ => 0) m + 0 = 0; rw [tot_0 m]; rfl
theorem ci_init {y : SI} {c : Sc} {cap : Nat} (h : ∀ r, r < y.len → same c y.c r) : CI y 0 (sv0 y.len cap c) := ⟨rfl, h, fun _ _ => ⟨Int.le_refl _, Int.le_refl _⟩, tot_0 _⟩
theorem psW_in (t : Sv) (i z : Int) : psW t i z = 0 ∨ psW t i z = 2 ∨ psW t i z = 5 := by
  unfold psW
  split
  · exact .inr (.inr rfl)
  · split
    · exact .inr (.inl rfl)
    · exact .inl rfl
theorem up_in {g : Nat → Nat → Int} {n : Nat} (h : ∀ k r, 0 ≤ g k r ∧ g k r ≤ (n : Int)) (hn : n ≤ 1000) (k i : Nat) : IntKind.i64.wrap (g k i + 1) = g k i + 1 ∧ ∀ j r, 0 ≤ upC g k i j r ∧ upC g k i j r ≤ ((n + 1 : Nat) : Int) := by
  have h0 := h k i
  have hw : IntKind.i64.wrap (g k i + 1) = g k i + 1 := w64' (by omega) (by omega)
  refine ⟨hw, fun j r => ?_⟩
  have h1 := h j r
  unfold upC
  rw [hw]
  split
  · split <;> omega
  · omega
theorem ci_in {y : SI} {n : Nat} {t : Sv} (h : CI y n t) (hn : n ≤ 1000) (a : InA) : CI y (n + 1) (inT t a) := by
  obtain ⟨e1, e2, e3⟩ := inT_s t a
  have key : ∃ k i, k < 6 ∧ i ≤ y.len ∧ (inT t a).ct = upC t.ct k i := by
    by_cases hf : fI t a < 0
    · exact ⟨1, t.n, by decide, by rw [h.n]; exact Nat.le_refl _, by unfold inT; rw [if_pos hf]⟩
    · refine ⟨(psW t (fI t a) a.size).toNat, (fI t a).toNat, ?_, ?_, by unfold inT; rw [if_neg hf]⟩
      · rcases psW_in t (fI t a) a.size with h1 | h1 | h1 <;> rw [h1] <;> decide
      · have := fI_in t a
        have := h.n
        omega
  obtain ⟨k, i, hk, hi, e4⟩ := key
  obtain ⟨u1, u2⟩ := up_in h.ct hn k i
  refine ⟨e1.trans h.n, fun r hr => by rw [e3]; exact h.sm r hr, by rw [e4]; exact u2, ?_⟩
  rw [e4, tot_up hk u1, h.tot, if_pos (by omega)]; rfl
theorem ci_op {y : SI} {n : Nat} {t : Sv} (h : CI y n t) (i : Int) : CI y n (opT t i) := by
  obtain ⟨e1, e2, e3, e4⟩ := opT_s t i
  exact ⟨e1.trans h.n, fun r hr => by rw [e3]; exact h.sm r hr, by rw [e4]; exact h.ct, by rw [e4]; exact h.tot⟩
theorem ci_what {y : SI} {n : Nat} {t : Sv} (h : CI y n t) (a : InA) : (decide (fI t a < 0) == decide (inW t a = 1)) = true ∧ fI t a < y.len ∧ (inW t a = 0 → 0 ≤ fI t a ∧ ¬ (0 < y.c.mx (fI t a).toNat ∧ y.c.mx (fI t a).toNat < a.size)) := by
  have hF := fI_in t a
  have hn := h.n
  by_cases hf : fI t a < 0
  · have hw : inW t a = 1 := if_pos hf
    refine ⟨by rw [hw]; simp [hf], by omega, fun h9 => by rw [hw] at h9; cases h9⟩
  · have hw : inW t a = psW t (fI t a) a.size := if_neg hf
    have hp := psW_in t (fI t a) a.size
    refine ⟨?_, by omega, fun h9 => ⟨by omega, fun h8 => ?_⟩⟩
    · rw [hw, beq_iff_eq, decide_eq_decide]; omega
    · rw [hw] at h9
      have hm := (same_out (h.sm (fI t a).toNat (by omega)))
      have hm : t.c.mx (fI t a).toNat = y.c.mx (fI t a).toNat := hm.2.2.2.2.2.2.2.2.2.2.2.1
      unfold psW at h9
      split at h9
      · cases h9
      · rw [hm, if_pos h8] at h9; cases h9
theorem s6 {s a b c d e f : Int} (hs : 0 ≤ s ∧ s ≤ 1000000000) (ha : 0 ≤ a ∧ a ≤ 1000) (hb : 0 ≤ b ∧ b ≤ 1000) (hc : 0 ≤ c ∧ c ≤ 1000) (hd : 0 ≤ d ∧ d ≤ 1000) (he : 0 ≤ e ∧ e ≤ 1000) (hf : 0 ≤ f ∧ f ≤ 1000) :
    IntKind.i64.wrap (IntKind.i64.wrap (IntKind.i64.wrap (IntKind.i64.wrap (IntKind.i64.wrap (IntKind.i64.wrap (s + a) + b) + c) + d) + e) + f) = s + (a + b + c + d + e + f) := by
  rw [w64' (n := s + a) (by omega) (by omega), w64' (n := s + a + b) (by omega) (by omega), w64' (n := s + a + b + c) (by omega) (by omega), w64' (n := s + a + b + c + d) (by omega) (by omega), w64' (n := s + a + b + c + d + e) (by omega) (by omega), w64' (by omega) (by omega)]
  omega
theorem sum_step {y : SI} {n : Nat} {t : Sv} (h : CI y n t) (hn : n ≤ 80) (hl : y.len ≤ 64) {i : Nat} (hi : i ≤ y.len) : IntKind.i64.wrap (IntKind.i64.wrap (IntKind.i64.wrap (IntKind.i64.wrap (IntKind.i64.wrap (IntKind.i64.wrap (tot t.ct i + ctX t i 0) + ctX t i 1) + ctX t i 2) + ctX t i 3) + ctX t i 4) + ctX t i 5) = tot t.ct (i + 1) := by
  have e : ∀ k, ctX t i k = t.ct k i := fun k => by
    unfold ctX
    rw [if_neg (by rw [h.n]; omega), Int.toNat_natCast]
  have hb : ∀ k, 0 ≤ t.ct k i ∧ t.ct k i ≤ 1000 := fun k => by have := h.ct k i; omega
  have ht := tot_in h.ct i
  rw [e, e, e, e, e, e]
  have h2 : 6 * (n : Int) * (i : Int) ≤ 1000000000 := by
    have h3 : 6 * (n : Int) * (i : Int) ≤ 480 * 64 := Int.mul_le_mul (by omega) (by omega) (by omega) (by omega)
    omega
  exact s6 ⟨ht.1, Int.le_trans ht.2 h2⟩ (hb 0) (hb 1) (hb 2) (hb 3) (hb 4) (hb 5)
abbrev laS (y : SI) (s : SS) : LA where
  ι := Nat
  inv := fun i => i ≤ y.len ∧ y.len ≤ 30 ∧ s.len ≤ 80
  T := fun i => ⟨145, [(0, .one (.a (.slc 0 14 0 y.len y.cap))), (1, .one (.a (.slc 1 19 0 s.len s.cap))), (29, .one (.a (.slc 0 14 0 y.len y.cap))), (30, int_ .i64 y.len), (31, int_ .i64 i)], [roS y, roT s]⟩
  μ := fun i => y.len - i
  ren := fun _ => [0, 1]
structure LX where
  i : Nat
  n : Nat
  t : Sv
abbrev laU (y : SI) (s : SS) : LA where
  ι := LX
  inv := fun x => x.i ≤ s.len ∧ x.n ≤ x.i ∧ CI y x.n x.t ∧ y.len ≤ 30 ∧ s.len ≤ 80
  T := fun x => ⟨145, [(0, .one (.a (.slc 0 14 0 y.len y.cap))), (6, .one (.a (.ptr 2 0))), (8, int_ .i64 x.n), (56, .one (.a (.slc 1 19 0 s.len s.cap))), (57, int_ .i64 s.len), (58, int_ .i64 x.i)], [roS y, roT s, some ⟨true, .obj 56 (svP x.t) (boxI svK)⟩]⟩
  μ := fun x => s.len - x.i
  ren := fun S => [0, 1, S.ix 6]
structure LZ where
  i : Nat
  n : Nat
  t : Sv
  z : Unit
abbrev laV (y : SI) (s : SS) : LA where
  ι := LZ
  inv := fun x => x.i ≤ y.len + 1 ∧ x.n ≤ 80 ∧ CI y x.n x.t ∧ y.len ≤ 30
  T := fun x => ⟨145, [(0, .one (.a (.slc 0 14 0 y.len y.cap))), (6, .one (.a (.ptr 2 0))), (8, int_ .i64 x.n), (15, int_ .i64 (tot x.t.ct x.i)), (16, int_ .i64 x.i)], [roS y, roT s, some ⟨true, .obj 56 (svP x.t) (boxI svK)⟩]⟩
  μ := fun x => y.len + 1 - x.i
  ren := fun S => [0, 1, S.ix 6]
noncomputable def cxL (y : SI) (s : SS) : Cx Try.prog := { ps := [hdS, fdS, ctS], es := [newS, inS, opS], is := [], n0 := 2, loops := fun i => match i with | 6 => some (.inv (laS y s)) | 16 => some (.inv (laU y s)) | 29 => some (.inv (laV y s)) | 32 => some (.rounds 7) | _ => none, cuts := fun _ => none }
theorem newE_ne (y : SI) : ¬ newE y = 0 := by
  unfold newE
  split <;> decide
attribute [local irreducible] enter newOK same inT inW inQ fI opE opT Sw ctX tot
set_option maxHeartbeats 8000000 in
theorem runs (b : SI) (s : SS) (hb : Sw b) (hs : Tw s) : Runs (cxL b s) Try.f5 [.one (.a (.slc 0 14 0 b.len b.cap)), .one (.a (.slc 1 19 0 s.len s.cap))] [roS b, roT s] yes := by
  obtain ⟨b1, b2, b3⟩ := sw_out hb
  obtain ⟨s1, s2, s3⟩ := hs
  repeat' (first | with_reducible exact trivial | with_reducible exact rfl | with_reducible exact Nat.le_refl _ | with_reducible exact (fun _ _ => rfl) | ((conv => whnf); first | (refine fun (x : Nat) => ?_) | (refine fun (y : LX) => ?_) | (refine fun (z : LZ) => ?_) | (refine fun (u : Sc × Nat) => ?_) | (exact fun h => absurd h (by decide)) | (intro h9; (have h8 := of_decide_eq_true (p := type_of% h9) (by decide)); clear h8 h9) | (refine fun _ => ?_) | refine ⟨?_, ?_⟩ | exact trivial | exact Nat.le_refl _ | exact lex_q (by kernel_rfl) | exact lex_t (by kernel_rfl) | exact lex_h (by kernel_rfl) | fail))
  all_goals (try exact absurd (newE_ne _) (by assumption))
  all_goals (try (have hx := (by assumption : (laS b s).inv x); dsimp only [laS] at hx))
  all_goals (try (have hy := (by assumption : (laU b s).inv y); dsimp only [laU] at hy; obtain ⟨y1, y2, yc, y30, y80⟩ := hy))
  all_goals (try (have hz := (by assumption : (laV b s).inv z); dsimp only [laV] at hz; obtain ⟨z1, z2, zc, z30⟩ := hz))
  all_goals (try omega)
  all_goals (try with_reducible decide)
  · (conv => whnf); refine enter_mk (la := laS b s) 0 ?_ (by (repeat' (first | ((conv => whnf); first | refine ⟨?_, ?_⟩ | exact trivial | fail) | (dsimp only; done) | ((try dsimp only); first | with_reducible exact rfl | exact Nat.le_refl _ | with_reducible exact (fun _ _ => rfl)))); all_goals ((first | rfl | decide)))
    exact ⟨Nat.zero_le _, by show b.len ≤ 30; omega, by omega⟩
  · (conv => whnf)
    (conv => whnf); refine enter_mk (la := laS b s) (x + 1) ?_ (by (repeat' (first | ((conv => whnf); first | refine ⟨?_, ?_⟩ | exact trivial | fail) | (dsimp only; done) | ((try dsimp only); first | with_reducible exact rfl | exact Nat.le_refl _ | with_reducible exact (fun _ _ => rfl)))); all_goals ((first | rfl | (show b.len - (x + 1) < b.len - x; omega) | (dsimp only; rw [w64' (by omega) (by omega)]; omega))))
    exact ⟨by show x + 1 ≤ b.len; omega, hx.2⟩
  · have hu := (by assumption : (fun (x : Sc × Nat) => newOK b ∧ (∀ r, r < b.len → same x.1 b.c r) ∧ b.len ≤ x.2 ∧ x.2 ≤ 9223372036854775807) u)
    (conv => whnf); refine enter_mk (la := laU b s) ⟨0, 0, sv0 b.len u.2 u.1⟩ ?_ (by (repeat' (first | ((conv => whnf); first | refine ⟨?_, ?_⟩ | exact trivial | fail) | (dsimp only; done) | ((try dsimp only); first | with_reducible exact rfl | exact Nat.le_refl _ | with_reducible exact (fun _ _ => rfl)))); all_goals ((first | rfl | exact fun _ _ => rfl | decide)))
    exact ⟨Nat.zero_le _, Nat.le_refl _, ci_init hu.2.1, hx.2⟩
  all_goals (try (have wh := ci_what yc (yAt s (0 + Int.toNat (y.i : Int))); have ci := ci_in yc (by omega) (yAt s (0 + Int.toNat (y.i : Int)))))
  · (conv => whnf)
    (conv => whnf); refine enter_mk (la := laU b s) ⟨y.i + 1, y.n, opT y.t _⟩ ?_ (by (repeat' (first | ((conv => whnf); first | refine ⟨?_, ?_⟩ | exact trivial | fail) | (dsimp only; done) | ((try dsimp only); first | with_reducible exact rfl | exact Nat.le_refl _ | with_reducible exact (fun _ _ => rfl)))); all_goals ((first | rfl | (show s.len - (y.i + 1) < s.len - y.i; omega) | (dsimp only; rw [w64' (by omega) (by omega)]; omega))))
    exact ⟨by show y.i + 1 ≤ s.len; omega, by show y.n ≤ y.i + 1; omega, ci_op yc _, y30, y80⟩
  all_goals (try (have q0 := wh.2.2 (by assumption); have q1 : 0 + Int.toNat (fI y.t (yAt s (0 + Int.toNat (y.i : Int)))) < b.N := (by omega)))
  all_goals (try first | exact q0.1 | exact q1 | exact wh.2.1 | exact absurd wh.2.1 (Int.not_lt.2 (by assumption)) | exact absurd (by assumption : (!(decide (fI y.t (yAt s (0 + Int.toNat (y.i : Int))) < 0) == decide (inW y.t (yAt s (0 + Int.toNat (y.i : Int))) = 1))) = true) (by rw [wh.1]; decide) | fail)
  · have g1 := (by assumption : 0 < b.c.mx (0 + Int.toNat (fI y.t (yAt s (0 + Int.toNat (y.i : Int))))))
    have g2 := (by assumption : b.c.mx (0 + Int.toNat (fI y.t (yAt s (0 + Int.toNat (y.i : Int))))) < ((yAt s (0 + Int.toNat (y.i : Int)))).size)
    rw [Nat.zero_add] at g1 g2
    exact absurd ⟨g1, g2⟩ q0.2
  · (conv => whnf)
    (conv => whnf); refine enter_mk (la := laU b s) ⟨y.i + 1, y.n + 1, inT y.t (yAt s (0 + Int.toNat (y.i : Int)))⟩ ?_ (by (repeat' (first | ((conv => whnf); first | refine ⟨?_, ?_⟩ | exact trivial | fail) | (dsimp only; done) | ((try dsimp only); first | with_reducible exact rfl | exact Nat.le_refl _ | with_reducible exact (fun _ _ => rfl)))); all_goals ((first | rfl | (show s.len - (y.i + 1) < s.len - y.i; omega) | (dsimp only; rw [w64' (by omega) (by omega)]; omega))))
    exact ⟨by show y.i + 1 ≤ s.len; omega, by show y.n + 1 ≤ y.i + 1; omega, ci, y30, y80⟩
  · (conv => whnf)
    (conv => whnf); refine enter_mk (la := laU b s) ⟨y.i + 1, y.n + 1, inT y.t (yAt s (0 + Int.toNat (y.i : Int)))⟩ ?_ (by (repeat' (first | ((conv => whnf); first | refine ⟨?_, ?_⟩ | exact trivial | fail) | (dsimp only; done) | ((try dsimp only); first | with_reducible exact rfl | exact Nat.le_refl _ | with_reducible exact (fun _ _ => rfl)))); all_goals ((first | rfl | (show s.len - (y.i + 1) < s.len - y.i; omega) | (dsimp only; rw [w64' (by omega) (by omega)]; omega))))
    exact ⟨by show y.i + 1 ≤ s.len; omega, by show y.n + 1 ≤ y.i + 1; omega, ci, y30, y80⟩
  · (conv => whnf)
    (conv => whnf); refine enter_mk (la := laU b s) ⟨y.i + 1, y.n + 1, inT y.t (yAt s (0 + Int.toNat (y.i : Int)))⟩ ?_ (by (repeat' (first | ((conv => whnf); first | refine ⟨?_, ?_⟩ | exact trivial | fail) | (dsimp only; done) | ((try dsimp only); first | with_reducible exact rfl | exact Nat.le_refl _ | with_reducible exact (fun _ _ => rfl)))); all_goals ((first | rfl | (show s.len - (y.i + 1) < s.len - y.i; omega) | (dsimp only; rw [w64' (by omega) (by omega)]; omega))))
    exact ⟨by show y.i + 1 ≤ s.len; omega, by show y.n + 1 ≤ y.i + 1; omega, ci, y30, y80⟩
  · (conv => whnf); refine enter_mk (la := laV b s) ⟨0, y.n, y.t, ()⟩ ?_ (by (repeat' (first | ((conv => whnf); first | refine ⟨?_, ?_⟩ | exact trivial | fail) | (dsimp only; done) | ((try dsimp only); first | with_reducible exact rfl | exact Nat.le_refl _ | with_reducible exact (fun _ _ => rfl)))); all_goals ((first | rfl | exact tot_z _ | exact (tot_z _).symm | decide)))
    exact ⟨Nat.zero_le _, by show y.n ≤ 80; omega, yc, y30⟩
  · (conv => whnf)
    have hs := sum_step zc z2 (by omega) (i := z.i) (by omega)
    (conv => whnf); refine enter_mk (la := laV b s) ⟨z.i + 1, z.n, z.t, ()⟩ ?_ (by (repeat' (first | ((conv => whnf); first | refine ⟨?_, ?_⟩ | exact trivial | fail) | (dsimp only; done) | ((try dsimp only); first | with_reducible exact rfl | exact Nat.le_refl _ | with_reducible exact (fun _ _ => rfl)))); all_goals ((first | rfl | exact hs | exact hs.symm | (show b.len + 1 - (z.i + 1) < b.len + 1 - z.i; omega) | (dsimp only; rw [w64' (by omega) (by omega)]; omega))))
    exact ⟨by show z.i + 1 ≤ b.len + 1; omega, z2, zc, z30⟩
  · have e : z.i = b.len + 1 := by omega
    have h9 := zc.tot
    rw [← e] at h9
    exact (decide_eq_true h9).symm

theorem own : ownKnob Try.prog.godebug = none := by kernel_rfl

set_option maxRecDepth 100000 in
theorem lifted (os : Os) (started : os.Started) (H : Type) (enc : TypeId × Value → H) :
    ReturnsInHanded {} Try.checked os 5 .any (Rows.sieveCountsSpec.pre6 enc Try.prog Try.f5 Rows.sieveCountsRow.domain false) (Rows.sieveCountsSpec.post enc Try.prog Try.f5 false true false false) := by
  refine returnsInHanded_of_change (C := Try.checked) own started (by kernel_rfl) Try.func5
    (ChangeSpec.witness6 (enc := enc) (C := Try.checked) false ⟨#[], #[.slice none 0 0, .slice none 0 0], []⟩ 8 (by kernel_rfl) (by kernel_rfl) (by kernel_rfl) (by kernel_rfl)) ?_
  intro W base args ds gs before hval0 hW hcnd _
  have hval : ∀ (j : Nat) t v, Try.f5.params[j]? = some t → args[j]? = some v → Value.okWide Try.prog W .any base t v := hval0
  have hW' := hW
  obtain ⟨p, q, hA0, hV, rfl, hfz, hnd⟩ := hW
  have hA : DataW.TrodAll enc Try.prog W 0 (fun _ => true) true Try.f5.params.toList args.toList ds p := hA0
  rw [Try.params5] at hA hval
  obtain ⟨v0, vs0, d0, ds0, p0, q0, hargs0, rfl, rfl, h0, r0⟩ := trodAll_cons hA
  obtain ⟨v1, vs1, d1, ds1, p1, q1, hargs1, rfl, rfl, h1, r1⟩ := trodAll_cons r0
  obtain ⟨rfl, rfl, rfl⟩ := trodAll_nil r1
  obtain ⟨rfl, rfl⟩ := trodVars_none hV
  obtain rfl : args = #[v0, v1] := by cases args; simp_all
  obtain ⟨A0, n0, c0, s0⟩ := slice_open (d := 6) (row := [some .i64, some .i64, some .u8, some .u8, some .u8, some .u8, some .u8, some .u8, none, some .i64, some .i64, some .i64, none, some .i64]) Try.underlying26 (by kernel_rfl) (by kernel_rfl) (hval 0 26 v0 rfl rfl) h0
  obtain ⟨A1, n1, c1, s1⟩ := slice_open (d := 6) (row := [none, some .i64, some .i64, some .i64, some .i64, some .u8, some .u8, some .u8, some .u8, some .u8, some .u8, some .u8, some .u8, some .u8, some .u8, some .u8, some .u8, some .i64, some .i64]) Try.underlying39 (by kernel_rfl) (by kernel_rfl) (hval 1 39 v1 rfl rfl) h1
  refine Calls.mono (law_calls mixed Try.func5 (runs ⟨n0, c0, n0, ⟨fun r => intC W A0 (r * 14 + 0), fun r => intC W A0 (r * 14 + 1), fun r => intC W A0 (r * 14 + 2), fun r => intC W A0 (r * 14 + 3), fun r => intC W A0 (r * 14 + 4), fun r => intC W A0 (r * 14 + 5), fun r => intC W A0 (r * 14 + 6), fun r => intC W A0 (r * 14 + 7), fun r => boolC W A0 (r * 14 + 8), fun r => intC W A0 (r * 14 + 9), fun r => intC W A0 (r * 14 + 10), fun r => intC W A0 (r * 14 + 11), fun r => boolC W A0 (r * 14 + 12), fun r => intC W A0 (r * 14 + 13)⟩⟩ ⟨n1, c1, n1, fun r => boolC W A1 (r * 19 + 0), fun r => intC W A1 (r * 19 + 1), fun r => intC W A1 (r * 19 + 2), fun r => intC W A1 (r * 19 + 3), fun r => intC W A1 (r * 19 + 4), fun r => intC W A1 (r * 19 + 5), fun r => intC W A1 (r * 19 + 6), fun r => intC W A1 (r * 19 + 7), fun r => intC W A1 (r * 19 + 8), fun r => intC W A1 (r * 19 + 9), fun r => intC W A1 (r * 19 + 10), fun r => intC W A1 (r * 19 + 11), fun r => intC W A1 (r * 19 + 12), fun r => intC W A1 (r * 19 + 13), fun r => intC W A1 (r * 19 + 14), fun r => intC W A1 (r * 19 + 15), fun r => intC W A1 (r * 19 + 16), fun r => intC W A1 (r * 19 + 17), fun r => intC W A1 (r * 19 + 18)⟩ (sw_mk ⟨s0.le, Nat.le_refl _, s0.max⟩) ⟨s1.le, Nat.le_refl _, s1.max⟩) (e := envOf [A0, A1]) (rel_in2 s0.reg s1.reg) (Nat.le_refl 2) (by rw [s0.val, s1.val]; exact (den_on).symm)) fun e W' ⟨he, hb⟩ => ?_
  subst he
  exact ⟨_, rfl, law_post hW' rfl rfl (by kernel_rfl) (by decide +kernel) rfl Try.underlying4 hb⟩

theorem over : Rows.sieveCountsRow.holds Try.pinned (OpenSpec.ofChange Rows.sieveCountsSpec) :=
  OpenClaim.holds_of_wide 5 Try.f5 rfl rfl rfl rfl rfl rfl rfl ⟨rfl, rfl, rfl, rfl, rfl⟩ rfl rfl rfl rfl rfl (by kernel_rfl) Try.func5 (by kernel_rfl)
    (of_decide_eq_true (by kernel_rfl)) (by unfold Func.isWrapper; first | (rw [if_pos (by decide +kernel)]; kernel_rfl) | (rw [if_neg (by decide +kernel)]; exact ⟨rfl, rfl⟩))
    (fun os started H enc _ => lifted os started H enc)

/-- SieveCounts -/
theorem proved : Rows.SieveCountsSaid := over
#print axioms proved
end Go.Proofs.Ytmhggafgdilgeaa.sieveCounts
