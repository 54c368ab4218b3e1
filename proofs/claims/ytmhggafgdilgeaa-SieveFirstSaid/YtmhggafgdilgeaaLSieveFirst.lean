/-
  For all streams and frames the law SieveFirst answers true and leaves all memory as it was.
-/
import Derived.Test.YtmhggafgdilgeaaSx
import Derived.Test.YtmhggafgdilgeaaSieH
import Derived.Test.YtmhggafgdilgeaaRows
import Derived.WalkKit
import Derived.ProofKit
import Derived.OpenShut
namespace Go.Proofs.Ytmhggafgdilgeaa.sieveFirst
open Go.ChangeShapes Go.WideShapes Go.ChangeAt Go.RowKit Go.Sx
set_option linter.unusedVariables false
set_option linter.unusedSimpArgs false
set_option maxRecDepth 100000

structure SS where
  op : Bool
  i : Int
  now : Int
  po : Int
  vid : Int
  d0 : Int
  d1 : Int
  d2 : Int
  d3 : Int
  d4 : Int
  d5 : Int
  s0 : Int
  s1 : Int
  s2 : Int
  s3 : Int
  s4 : Int
  s5 : Int
  pr : Int
  sz : Int
def ssL (x : SS) : List SA := [b_ x.op, i_ x.i, i_ x.now, i_ x.po, i_ x.vid, u_ x.d0, u_ x.d1, u_ x.d2, u_ x.d3, u_ x.d4, u_ x.d5, u_ x.s0, u_ x.s1, u_ x.s2, u_ x.s3, u_ x.s4, u_ x.s5, i_ x.pr, i_ x.sz]
def ssC (x : SS) : SV := .one (.agg (ssL x))
theorem den_on {A : Option Addr} {n cap : Nat} {x : SS} : #[SV.den (envOf [A]) (.one (.a (.slc 0 14 0 n cap))), SV.den (envOf [A]) (ssC x)] = #[.slice A n cap, .agg #[.bool x.op, .int .i64 x.i, .int .i64 x.now, .int .i64 x.po, .int .i64 x.vid, .int .u8 x.d0, .int .u8 x.d1, .int .u8 x.d2, .int .u8 x.d3, .int .u8 x.d4, .int .u8 x.d5, .int .u8 x.s0, .int .u8 x.s1, .int .u8 x.s2, .int .u8 x.s3, .int .u8 x.s4, .int .u8 x.s5, .int .i64 x.pr, .int .i64 x.sz]] := by
  show #[SA.den (envOf [A]) (.slc 0 14 0 n cap), _] = _
  rw [den_slc (A := A) rfl]; rfl
def mcD (x : SS) : Mc := ⟨x.d0, x.d1, x.d2, x.d3, x.d4, x.d5⟩
def mcS (x : SS) : Mc := ⟨x.s0, x.s1, x.s2, x.s3, x.s4, x.s5⟩
/-! rows alike -/
def like (c d : Sc) (r s : Nat) : Prop := c.po r = d.po s ∧ c.vid r = d.vid s ∧ c.m0 r = d.m0 s ∧ c.m1 r = d.m1 s ∧ c.m2 r = d.m2 s ∧ c.m3 r = d.m3 s ∧ c.m4 r = d.m4 s ∧ c.m5 r = d.m5 s ∧ c.src r = d.src s ∧ c.ga r = d.ga s ∧ c.pr r = d.pr s ∧ c.mx r = d.mx s ∧ c.sh r = d.sh s ∧ c.ra r = d.ra s
theorem like_of {c d : Sc} {r : Nat} (h : same c d r) : like c d r r := same_out h
theorem like_ok {c d : Sc} {r s : Nat} (h : like c d r s) (hd : rowOK d s) : rowOK c r := by
  obtain ⟨e0, e1, _, _, _, _, _, _, _, e9, e10, e11, _, e13⟩ := h
  unfold rowOK at hd ⊢
  rw [e0, e1, e9, e10, e11, e13]; exact hd
theorem like_hits {c d : Sc} {r s : Nat} (h : like c d r s) {p v : Int} {a b : Mc} : hits c p v a b r ↔ hits d p v a b s := by
  obtain ⟨e0, e1, e2, e3, e4, e5, e6, e7, e8, _⟩ := h
  unfold hits mcAt
  rw [e0, e1, e2, e3, e4, e5, e6, e7, e8]
/-- the stream that is found among those that came -/
def F (b : SI) (x : SS) : Int := fnd (sv0 b.len 0 b.c) x.po x.vid (mcD x) (mcS x)
theorem F_same {b : SI} {x : SS} {c : Sc} {cap : Nat} (h : ∀ r, r < b.len → same c b.c r) : fnd (sv0 b.len cap c) x.po x.vid (mcD x) (mcS x) = F b x := by
  rcases fnd_cases (sv0 b.len 0 b.c) x.po x.vid (mcD x) (mcS x) with ⟨h1, h2⟩ | ⟨i, h1, h2, h3, h4⟩
  · have h2 : ∀ j, j < b.len → ¬ hits b.c x.po x.vid (mcD x) (mcS x) j := h2
    unfold F
    rw [h1]
    exact fnd_no (t := sv0 b.len cap c) fun j hj => fun hh => h2 j hj ((like_hits (like_of (h j hj))).1 hh)
  · have h2 : i < b.len := h2
    have h3 : hits b.c x.po x.vid (mcD x) (mcS x) i := h3
    have h4 : ∀ j, j < i → ¬ hits b.c x.po x.vid (mcD x) (mcS x) j := h4
    unfold F
    rw [h1]
    exact fnd_at (t := sv0 b.len cap c) (fun j hj => fun hh => h4 j hj ((like_hits (like_of (h j (by omega)))).1 hh)) h2 ((like_hits (like_of (h i h2))).2 h3)
def half (n r : Nat) : Nat := if r < n then r else r - n
theorem half_lt {n r : Nat} (h : r < n + n) : half n r < n := by unfold half; split <;> omega
theorem dbl_ok {b : SI} (h : newOK b) (h30 : b.len ≤ 30) {k cap N : Nat} {d : Sc} (hk : k = b.len + b.len) (hd : ∀ r, r < b.len + b.len → like d b.c r (half b.len r)) : newOK ⟨k, cap, N, d⟩ := by
  subst hk
  exact newOK_mk ⟨by show b.len + b.len ≤ 64; omega, fun r hr => like_ok (hd r hr) ((newOK_out h).2 _ (half_lt hr))⟩
theorem dbl_fnd {b : SI} {x : SS} {k cap : Nat} {c d : Sc} (hk : k = b.len + b.len) (hc : ∀ r, r < k → same c d r) (hd : ∀ r, r < b.len + b.len → like d b.c r (half b.len r)) : fnd (sv0 k cap c) x.po x.vid (mcD x) (mcS x) = F b x := by
  subst hk
  have hl : ∀ j, j < b.len + b.len → (hits c x.po x.vid (mcD x) (mcS x) j ↔ hits b.c x.po x.vid (mcD x) (mcS x) (half b.len j)) := fun j hj => (like_hits (like_of (hc j hj))).trans (like_hits (hd j hj))
  rcases fnd_cases (sv0 b.len 0 b.c) x.po x.vid (mcD x) (mcS x) with ⟨h1, h2⟩ | ⟨i, h1, h2, h3, h4⟩
  · have h2 : ∀ j, j < b.len → ¬ hits b.c x.po x.vid (mcD x) (mcS x) j := h2
    unfold F
    rw [h1]
    exact fnd_no (t := sv0 (b.len + b.len) cap c) fun j hj => fun hh => h2 _ (half_lt hj) ((hl j hj).1 hh)
  · have h2 : i < b.len := h2
    have h3 : hits b.c x.po x.vid (mcD x) (mcS x) i := h3
    have h4 : ∀ j, j < i → ¬ hits b.c x.po x.vid (mcD x) (mcS x) j := h4
    have hh : ∀ j, j < b.len → half b.len j = j := fun j hj => if_pos hj
    unfold F
    rw [h1]
    refine fnd_at (t := sv0 (b.len + b.len) cap c) (fun j hj => fun h9 => ?_) (by show i < b.len + b.len; omega) ((hl i (by omega)).2 (by rw [hh i h2]; exact h3))
    have := (hl j (by omega)).1 h9
    rw [hh j (by omega)] at this
    exact h4 j hj this
def shift (c : Sc) (R : Nat) : Sc := ⟨fun q => c.po (q + R), fun q => c.vid (q + R), fun q => c.m0 (q + R), fun q => c.m1 (q + R), fun q => c.m2 (q + R), fun q => c.m3 (q + R), fun q => c.m4 (q + R), fun q => c.m5 (q + R), fun q => c.src (q + R), fun q => c.ga (q + R), fun q => c.pr (q + R), fun q => c.mx (q + R), fun q => c.sh (q + R), fun q => c.ra (q + R)⟩
theorem one_ok {b : SI} (h : newOK b) {k l cap N R : Nat} (hk : k < b.len) (hl : l = 1) (hR : R = k) : newOK ⟨l, cap, N, shift b.c R⟩ := by
  subst hl hR
  refine newOK_mk ⟨by show 1 ≤ 64; decide, fun r hr => ?_⟩
  obtain rfl : r = 0 := by have hr : r < 1 := hr; omega
  have h9 := rowOK_out ((newOK_out h).2 R hk)
  refine rowOK_mk ?_
  show (-1 ≤ b.c.po (0 + R) ∧ b.c.po (0 + R) < 8) ∧ (1 ≤ b.c.vid (0 + R) ∧ b.c.vid (0 + R) ≤ 4094) ∧ b.c.ga (0 + R) = -1 ∧ (-1 ≤ b.c.pr (0 + R) ∧ b.c.pr (0 + R) ≤ 7) ∧ (0 ≤ b.c.mx (0 + R) ∧ b.c.mx (0 + R) ≤ 1600) ∧ b.c.ra (0 + R) = -1
  rw [Nat.zero_add]; exact h9
theorem one_fnd {b : SI} {x : SS} {k l cap R : Nat} {c : Sc} (hF : (k : Int) < F b x) (hl : l = 1) (hR : R = k) (hc : ∀ r, r < l → same c (shift b.c R) r) : fnd (sv0 l cap c) x.po x.vid (mcD x) (mcS x) = -1 := by
  subst hl hR
  refine fnd_no (t := sv0 1 cap c) fun j hj => fun hh => ?_
  obtain rfl : j = 0 := by have hj : j < 1 := hj; omega
  have h1 := (like_hits (like_of (hc 0 Nat.one_pos))).1 hh
  have h2 : like (shift b.c R) b.c 0 R := by
    unfold like
    show b.c.po (0 + R) = b.c.po R ∧ b.c.vid (0 + R) = b.c.vid R ∧ b.c.m0 (0 + R) = b.c.m0 R ∧ b.c.m1 (0 + R) = b.c.m1 R ∧ b.c.m2 (0 + R) = b.c.m2 R ∧ b.c.m3 (0 + R) = b.c.m3 R ∧ b.c.m4 (0 + R) = b.c.m4 R ∧ b.c.m5 (0 + R) = b.c.m5 R ∧ b.c.src (0 + R) = b.c.src R ∧ b.c.ga (0 + R) = b.c.ga R ∧ b.c.pr (0 + R) = b.c.pr R ∧ b.c.mx (0 + R) = b.c.mx R ∧ b.c.sh (0 + R) = b.c.sh R ∧ b.c.ra (0 + R) = b.c.ra R
    rw [Nat.zero_add]; exact ⟨rfl, rfl, rfl, rfl, rfl, rfl, rfl, rfl, rfl, rfl, rfl, rfl, rfl, rfl⟩
  have h3 := (like_hits h2).1 h1
  rcases fnd_cases (sv0 b.len 0 b.c) x.po x.vid (mcD x) (mcS x) with ⟨g1, _⟩ | ⟨i, g1, g2, g3, g4⟩
  · have : F b x = -1 := g1
    omega
  · have g1 : F b x = i := g1
    exact g4 R (by omega) h3
theorem F_lt (b : SI) (x : SS) : F b x < b.len := by
  rcases fnd_cases (sv0 b.len 0 b.c) x.po x.vid (mcD x) (mcS x) with ⟨g1, _⟩ | ⟨i, g1, g2, _⟩
  · have : F b x = -1 := g1
    omega
  · have g1 : F b x = i := g1
    have g2 : i < b.len := g2
    omega
structure LX where
  i : Nat
def xR (x : SS) : Option Reg := some ⟨true, .flat (ssL x)⟩
abbrev laS (b : SI) (x : SS) : LA where
  ι := LX
  inv := fun y => y.i ≤ b.len ∧ b.len ≤ 30
  T := fun y => ⟨112, [(0, .one (.a (.slc 0 14 0 b.len b.cap))), (3, .one (.a (.ptr 1 0))), (21, .one (.a (.slc 0 14 0 b.len b.cap))), (22, int_ .i64 b.len), (23, int_ .i64 y.i)], [roS b, xR x]⟩
  μ := fun y => b.len - y.i
  ren := fun S => [0, S.ix 3]
structure LY where
  k : Nat
abbrev laU (b : SI) (x : SS) : LA where
  ι := LY
  inv := fun y => ((y.k : Int) ≤ F b x ∨ y.k = 0) ∧ newOK b
  T := fun y => ⟨112, [(0, .one (.a (.slc 0 14 0 b.len b.cap))), (3, .one (.a (.ptr 1 0))), (12, int_ .i64 (F b x)), (13, int_ .i64 y.k)], [roS b, xR x]⟩
  μ := fun y => (F b x).toNat - y.k
  ren := fun S => [0, S.ix 3]
structure LC where
  c : Sc
  cap : Nat
noncomputable abbrev laC (b : SI) (x : SS) : LA where
  ι := LC
  inv := fun z => (newOK b ∧ b.len ≤ 30) ∧ ∀ r, r < b.len → same z.c b.c r
  T := fun z => ⟨112, [(0, .one (.a (.slc 0 14 0 b.len b.cap))), (3, .one (.a (.ptr 1 0))), (7, .one (.a (.ptr 2 0)))], [roS b, xR x, some ⟨true, .obj 56 (svP (sv0 b.len z.cap z.c)) (boxI svK)⟩]⟩
  μ := fun _ => 0
  ren := fun S => [0, S.ix 3, S.ix 7]
noncomputable def cxL (b : SI) (x : SS) : Cx Try.prog := { ps := [hdS, fdS, ctS], es := [newS, inS, opS], is := [], n0 := 1, loops := fun i => match i with | 6 => some (.inv (laS b x)) | 22 => some (.inv (laU b x)) | _ => none, cuts := fun i => match i with | 14 => some (laC b x) | _ => none }
theorem newE_ne (y : SI) : ¬ newE y = 0 := by
  unfold newE
  split <;> decide
attribute [local irreducible] enter newOK same inT inW inQ fI opE opT Sw fnd F
set_option maxHeartbeats 8000000 in
theorem runs (b : SI) (a : SS) (hb : Sw b) : Runs (cxL b a) Try.f4 [.one (.a (.slc 0 14 0 b.len b.cap)), ssC a] [roS b] yes := by
  obtain ⟨b1, b2, b3⟩ := sw_out hb
  repeat' (first | with_reducible exact trivial | with_reducible exact rfl | with_reducible exact Nat.le_refl _ | with_reducible exact (fun _ _ => rfl) | ((conv => whnf); first | (refine fun (x : LX) => ?_) | (refine fun (y : LY) => ?_) | (refine fun (z : LC) => ?_) | (refine fun (u : Sc × Nat) => ?_) | (exact fun h => absurd h (by decide)) | (intro h9; (have h8 := of_decide_eq_true (p := type_of% h9) (by decide)); clear h8 h9) | (refine fun _ => ?_) | refine ⟨?_, ?_⟩ | exact trivial | exact Nat.le_refl _ | exact lex_q (by kernel_rfl) | exact lex_t (by kernel_rfl) | exact lex_h (by kernel_rfl) | fail))
  all_goals (try exact absurd (newE_ne _) (by assumption))
  all_goals (try (have hx := (by assumption : (laS b a).inv x); dsimp only [laS] at hx))
  all_goals (try omega)
  all_goals (try with_reducible decide)
  all_goals (try (have hy := (by assumption : (laU b a).inv y); dsimp only [laU] at hy; have hk2 := (by assumption : (y.k : Int) < F b a); have hFl := F_lt b a; have hk3 : y.k < b.len := (by omega); have hwk : IntKind.i64.wrap ((y.k : Int) + 1) = (y.k : Int) + 1 := w64' (by omega) (by omega); have hL : cutL (some (y.k : Int)) (Int.toNat (IntKind.i64.wrap ((y.k : Int) + 1))) (Int.toNat (y.k : Int)) = 1 := (by rw [hwk]; show Int.toNat ((y.k : Int) + 1) - Int.toNat (y.k : Int) = 1; omega); have hR : cutR (some (y.k : Int)) b.cap (Int.toNat (y.k : Int)) 0 = y.k := (by show (if b.cap = Int.toNat (y.k : Int) then 0 else 0 + Int.toNat (y.k : Int)) = y.k; rw [if_neg (by omega)]; omega)))
  all_goals (try (have hz := (by assumption : (laC b a).inv z); dsimp only [laC] at hz; have hA := F_same (x := a) (cap := z.cap) hz.2))
  · (conv => whnf); refine enter_mk (la := laS b a) ⟨0⟩ ?_ (by (repeat' (first | ((conv => whnf); first | refine ⟨?_, ?_⟩ | exact trivial | fail) | (dsimp only; done) | ((try dsimp only); first | with_reducible exact rfl | exact Nat.le_refl _ | with_reducible exact (fun _ _ => rfl)))); all_goals ((first | rfl | decide)))
    exact ⟨Nat.zero_le _, by show b.len ≤ 30; omega⟩
  · (conv => whnf)
    (conv => whnf); refine enter_mk (la := laS b a) ⟨x.i + 1⟩ ?_ (by (repeat' (first | ((conv => whnf); first | refine ⟨?_, ?_⟩ | exact trivial | fail) | (dsimp only; done) | ((try dsimp only); first | with_reducible exact rfl | exact Nat.le_refl _ | with_reducible exact (fun _ _ => rfl)))); all_goals ((first | rfl | (show b.len - (x.i + 1) < b.len - x.i; omega) | (dsimp only; rw [w64' (by omega) (by omega)]; omega))))
    exact ⟨by show x.i + 1 ≤ b.len; omega, hx.2⟩
  · have hu := (by assumption : (fun (v : Sc × Nat) => newOK b ∧ (∀ r, r < b.len → same v.1 b.c r) ∧ b.len ≤ v.2 ∧ v.2 ≤ 9223372036854775807) u)
    (conv => whnf)
    (conv => whnf); refine enter_mk (la := laC b a) ⟨u.1, u.2⟩ ?_ (by (repeat' (first | ((conv => whnf); first | refine ⟨?_, ?_⟩ | exact trivial | fail) | (dsimp only; done) | ((try dsimp only); first | with_reducible exact rfl | exact Nat.le_refl _ | with_reducible exact (fun _ _ => rfl)))); all_goals ((first | rfl | exact fun _ _ => rfl | decide)))
    exact ⟨⟨hu.1, hx.2⟩, hu.2.1⟩
  · exact sw_mk ⟨by assumption, by assumption, by assumption⟩
  · rename_i hu hne
    refine absurd ((dbl_fnd (b := b) (x := a) (by show 0 + b.len + b.len = b.len + b.len; omega) hu.2.1 ?_).trans hA.symm) hne
    · intro r hr
      unfold like half
      dsimp only
      by_cases h9 : r < b.len
      · simp only [Nat.zero_add, Nat.add_zero, h9, if_true, Nat.sub_zero, Nat.not_lt_zero, if_false, and_self]
      · have h8 : r < b.len + b.len := hr
        simp only [Nat.zero_add, Nat.add_zero, h9, h8, if_true, if_false, and_self]
  · rename_i hle
    have hle2 : (b.len : Int) ≤ fnd (sv0 b.len z.cap z.c) a.po a.vid (mcD a) (mcS a) := hle
    rw [hA] at hle2
    exact absurd (F_lt b a) (Int.not_lt.2 hle2)
  · (conv => whnf); refine enter_mk (la := laU b a) ⟨0⟩ ?_ (by (repeat' (first | ((conv => whnf); first | refine ⟨?_, ?_⟩ | exact trivial | fail) | (dsimp only; done) | ((try dsimp only); first | with_reducible exact rfl | exact Nat.le_refl _ | with_reducible exact (fun _ _ => rfl)))); all_goals ((first | rfl | exact hA | exact hA.symm | decide)))
    exact ⟨.inr rfl, hz.1.1⟩
  · omega
  · omega
  · omega
  · exact sw_mk ⟨by show cutL (some (y.k : Int)) (Int.toNat (IntKind.i64.wrap ((y.k : Int) + 1))) (Int.toNat (y.k : Int)) ≤ b.cap - Int.toNat (y.k : Int); rw [hL]; omega, by show cutL (some (y.k : Int)) (Int.toNat (IntKind.i64.wrap ((y.k : Int) + 1))) (Int.toNat (y.k : Int)) ≤ b.N - cutR (some (y.k : Int)) b.cap (Int.toNat (y.k : Int)) 0; rw [hL, hR]; omega, by show b.cap - Int.toNat (y.k : Int) ≤ 9223372036854775807; omega⟩
  · rename_i hu hne
    exact absurd (one_fnd (x := a) hk2 hL hR hu.2.1) hne
  · (conv => whnf)
    (conv => whnf); refine enter_mk (la := laU b a) ⟨y.k + 1⟩ ?_ (by (repeat' (first | ((conv => whnf); first | refine ⟨?_, ?_⟩ | exact trivial | fail) | (dsimp only; done) | ((try dsimp only); first | with_reducible exact rfl | exact Nat.le_refl _ | with_reducible exact (fun _ _ => rfl)))); all_goals ((first | rfl | (show (F b a).toNat - (y.k + 1) < (F b a).toNat - y.k; omega) | (dsimp only; rw [w64' (by omega) (by omega)]; omega))))
    exact ⟨.inl (by show ((y.k + 1 : Nat) : Int) ≤ F b a; omega), hy.2⟩
  · rename_i hne _
    exact absurd (one_ok hy.2 hk3 hL hR) hne
  · rename_i hne _
    refine absurd (dbl_ok (b := b) hz.1.1 hz.1.2 (by show 0 + b.len + b.len = b.len + b.len; omega) ?_) hne
    · intro r hr
      unfold like half
      dsimp only
      by_cases h9 : r < b.len
      · simp only [Nat.zero_add, Nat.add_zero, h9, if_true, Nat.sub_zero, Nat.not_lt_zero, if_false, and_self]
      · have h8 : r < b.len + b.len := hr
        simp only [Nat.zero_add, Nat.add_zero, h9, h8, if_true, if_false, and_self]
  · exact sw_mk ⟨by assumption, by assumption, by assumption⟩
  · rename_i hu hne
    refine absurd ((dbl_fnd (b := b) (x := a) (by show 0 + b.len + b.len = b.len + b.len; omega) hu.2.1 ?_).trans hA.symm) hne
    · intro r hr
      unfold like half
      dsimp only
      by_cases h9 : r < b.len
      · simp only [Nat.zero_add, Nat.add_zero, h9, if_true, Nat.sub_zero, Nat.not_lt_zero, if_false, and_self]
      · have h8 : r < b.len + b.len := hr
        simp only [Nat.zero_add, Nat.add_zero, h9, h8, if_true, if_false, and_self]
  · rename_i hle
    have hle2 : (b.len : Int) ≤ fnd (sv0 b.len z.cap z.c) a.po a.vid (mcD a) (mcS a) := hle
    rw [hA] at hle2
    exact absurd (F_lt b a) (Int.not_lt.2 hle2)
  · (conv => whnf); refine enter_mk (la := laU b a) ⟨0⟩ ?_ (by (repeat' (first | ((conv => whnf); first | refine ⟨?_, ?_⟩ | exact trivial | fail) | (dsimp only; done) | ((try dsimp only); first | with_reducible exact rfl | exact Nat.le_refl _ | with_reducible exact (fun _ _ => rfl)))); all_goals ((first | rfl | exact hA | exact hA.symm | decide)))
    exact ⟨.inr rfl, hz.1.1⟩
  · omega
  · omega
  · omega
  · exact sw_mk ⟨by show cutL (some (y.k : Int)) (Int.toNat (IntKind.i64.wrap ((y.k : Int) + 1))) (Int.toNat (y.k : Int)) ≤ b.cap - Int.toNat (y.k : Int); rw [hL]; omega, by show cutL (some (y.k : Int)) (Int.toNat (IntKind.i64.wrap ((y.k : Int) + 1))) (Int.toNat (y.k : Int)) ≤ b.N - cutR (some (y.k : Int)) b.cap (Int.toNat (y.k : Int)) 0; rw [hL, hR]; omega, by show b.cap - Int.toNat (y.k : Int) ≤ 9223372036854775807; omega⟩
  · rename_i hu hne
    exact absurd (one_fnd (x := a) hk2 hL hR hu.2.1) hne
  · (conv => whnf)
    (conv => whnf); refine enter_mk (la := laU b a) ⟨y.k + 1⟩ ?_ (by (repeat' (first | ((conv => whnf); first | refine ⟨?_, ?_⟩ | exact trivial | fail) | (dsimp only; done) | ((try dsimp only); first | with_reducible exact rfl | exact Nat.le_refl _ | with_reducible exact (fun _ _ => rfl)))); all_goals ((first | rfl | (show (F b a).toNat - (y.k + 1) < (F b a).toNat - y.k; omega) | (dsimp only; rw [w64' (by omega) (by omega)]; omega))))
    exact ⟨.inl (by show ((y.k + 1 : Nat) : Int) ≤ F b a; omega), hy.2⟩
  · rename_i hne _
    exact absurd (one_ok hy.2 hk3 hL hR) hne
  · rename_i hne _
    refine absurd (dbl_ok (b := b) hz.1.1 hz.1.2 (by show 0 + b.len + b.len = b.len + b.len; omega) ?_) hne
    · intro r hr
      unfold like half
      dsimp only
      by_cases h9 : r < b.len
      · simp only [Nat.zero_add, Nat.add_zero, h9, if_true, Nat.sub_zero, Nat.not_lt_zero, if_false, and_self]
      · have h8 : r < b.len + b.len := hr
        simp only [Nat.zero_add, Nat.add_zero, h9, h8, if_true, if_false, and_self]

theorem own : ownKnob Try.prog.godebug = none := by kernel_rfl

set_option maxRecDepth 100000 in
theorem lifted (os : Os) (started : os.Started) (H : Type) (enc : TypeId × Value → H) :
    ReturnsInHanded {} Try.checked os 4 .any (Rows.sieveFirstSpec.pre6 enc Try.prog Try.f4 Rows.sieveFirstRow.domain false) (Rows.sieveFirstSpec.post enc Try.prog Try.f4 false true false false) := by
  refine returnsInHanded_of_change (C := Try.checked) own started (by kernel_rfl) Try.func4
    (ChangeSpec.witness6 (enc := enc) (C := Try.checked) false ⟨#[], #[.slice none 0 0, .agg #[.bool false, .int .i64 0, .int .i64 0, .int .i64 0, .int .i64 0, .int .u8 0, .int .u8 0, .int .u8 0, .int .u8 0, .int .u8 0, .int .u8 0, .int .u8 0, .int .u8 0, .int .u8 0, .int .u8 0, .int .u8 0, .int .u8 0, .int .i64 0, .int .i64 0]], []⟩ 8 (by kernel_rfl) (by kernel_rfl) (by kernel_rfl) (by kernel_rfl)) ?_
  intro W base args ds gs before hval0 hW hcnd _
  have hval : ∀ (j : Nat) t v, Try.f4.params[j]? = some t → args[j]? = some v → Value.okWide Try.prog W .any base t v := hval0
  have hW' := hW
  obtain ⟨p, q, hA0, hV, rfl, hfz, hnd⟩ := hW
  have hA : DataW.TrodAll enc Try.prog W 0 (fun _ => true) true Try.f4.params.toList args.toList ds p := hA0
  rw [Try.params4] at hA hval
  obtain ⟨v0, vs0, d0, ds0, p0, q0, hargs0, rfl, rfl, h0, r0⟩ := trodAll_cons hA
  obtain ⟨v1, vs1, d1, ds1, p1, q1, hargs1, rfl, rfl, h1, r1⟩ := trodAll_cons r0
  obtain ⟨rfl, rfl, rfl⟩ := trodAll_nil r1
  obtain ⟨rfl, rfl⟩ := trodVars_none hV
  obtain rfl : args = #[v0, v1] := by cases args; simp_all
  obtain ⟨A0, n0, c0, s0⟩ := slice_open (d := 6) (row := [some .i64, some .i64, some .u8, some .u8, some .u8, some .u8, some .u8, some .u8, none, some .i64, some .i64, some .i64, none, some .i64]) Try.underlying26 (by kernel_rfl) (by kernel_rfl) (hval 0 26 v0 rfl rfl) h0
  obtain ⟨cs1, hv1, hl1, hc1⟩ := agg_open (d := 6) (row := [none, some .i64, some .i64, some .i64, some .i64, some .u8, some .u8, some .u8, some .u8, some .u8, some .u8, some .u8, some .u8, some .u8, some .u8, some .u8, some .u8, some .i64, some .i64]) (by kernel_rfl) (by kernel_rfl) (hval 1 36 v1 rfl rfl) h1
  have g1_0 := listIs_of hl1 hc1
  clear hl1 hc1
  obtain ⟨_, cs1_1, rfl, ⟨b1_0, rfl⟩, g1_1⟩ := listIs_cons g1_0
  obtain ⟨_, cs1_2, rfl, ⟨b1_1, rfl, w1_1⟩, g1_2⟩ := listIs_cons g1_1
  obtain ⟨_, cs1_3, rfl, ⟨b1_2, rfl, w1_2⟩, g1_3⟩ := listIs_cons g1_2
  obtain ⟨_, cs1_4, rfl, ⟨b1_3, rfl, w1_3⟩, g1_4⟩ := listIs_cons g1_3
  obtain ⟨_, cs1_5, rfl, ⟨b1_4, rfl, w1_4⟩, g1_5⟩ := listIs_cons g1_4
  obtain ⟨_, cs1_6, rfl, ⟨b1_5, rfl, w1_5⟩, g1_6⟩ := listIs_cons g1_5
  obtain ⟨_, cs1_7, rfl, ⟨b1_6, rfl, w1_6⟩, g1_7⟩ := listIs_cons g1_6
  obtain ⟨_, cs1_8, rfl, ⟨b1_7, rfl, w1_7⟩, g1_8⟩ := listIs_cons g1_7
  obtain ⟨_, cs1_9, rfl, ⟨b1_8, rfl, w1_8⟩, g1_9⟩ := listIs_cons g1_8
  obtain ⟨_, cs1_10, rfl, ⟨b1_9, rfl, w1_9⟩, g1_10⟩ := listIs_cons g1_9
  obtain ⟨_, cs1_11, rfl, ⟨b1_10, rfl, w1_10⟩, g1_11⟩ := listIs_cons g1_10
  obtain ⟨_, cs1_12, rfl, ⟨b1_11, rfl, w1_11⟩, g1_12⟩ := listIs_cons g1_11
  obtain ⟨_, cs1_13, rfl, ⟨b1_12, rfl, w1_12⟩, g1_13⟩ := listIs_cons g1_12
  obtain ⟨_, cs1_14, rfl, ⟨b1_13, rfl, w1_13⟩, g1_14⟩ := listIs_cons g1_13
  obtain ⟨_, cs1_15, rfl, ⟨b1_14, rfl, w1_14⟩, g1_15⟩ := listIs_cons g1_14
  obtain ⟨_, cs1_16, rfl, ⟨b1_15, rfl, w1_15⟩, g1_16⟩ := listIs_cons g1_15
  obtain ⟨_, cs1_17, rfl, ⟨b1_16, rfl, w1_16⟩, g1_17⟩ := listIs_cons g1_16
  obtain ⟨_, cs1_18, rfl, ⟨b1_17, rfl, w1_17⟩, g1_18⟩ := listIs_cons g1_17
  obtain ⟨_, cs1_19, rfl, ⟨b1_18, rfl, w1_18⟩, g1_19⟩ := listIs_cons g1_18
  obtain rfl := listIs_nil g1_19
  subst hv1
  refine Calls.mono (law_calls mixed Try.func4 (runs ⟨n0, c0, n0, ⟨fun r => intC W A0 (r * 14 + 0), fun r => intC W A0 (r * 14 + 1), fun r => intC W A0 (r * 14 + 2), fun r => intC W A0 (r * 14 + 3), fun r => intC W A0 (r * 14 + 4), fun r => intC W A0 (r * 14 + 5), fun r => intC W A0 (r * 14 + 6), fun r => intC W A0 (r * 14 + 7), fun r => boolC W A0 (r * 14 + 8), fun r => intC W A0 (r * 14 + 9), fun r => intC W A0 (r * 14 + 10), fun r => intC W A0 (r * 14 + 11), fun r => boolC W A0 (r * 14 + 12), fun r => intC W A0 (r * 14 + 13)⟩⟩ ⟨b1_0, b1_1, b1_2, b1_3, b1_4, b1_5, b1_6, b1_7, b1_8, b1_9, b1_10, b1_11, b1_12, b1_13, b1_14, b1_15, b1_16, b1_17, b1_18⟩ (sw_mk ⟨s0.le, Nat.le_refl _, s0.max⟩)) (e := envOf [A0]) (rel_in1 s0.reg) (Nat.le_refl 1) (by rw [s0.val]; exact (den_on (x := ⟨b1_0, b1_1, b1_2, b1_3, b1_4, b1_5, b1_6, b1_7, b1_8, b1_9, b1_10, b1_11, b1_12, b1_13, b1_14, b1_15, b1_16, b1_17, b1_18⟩)).symm)) fun e W' ⟨he, hb⟩ => ?_
  subst he
  exact ⟨_, rfl, law_post hW' rfl rfl (by kernel_rfl) (by decide +kernel) rfl Try.underlying4 hb⟩

theorem over : Rows.sieveFirstRow.holds Try.pinned (OpenSpec.ofChange Rows.sieveFirstSpec) :=
  OpenClaim.holds_of_wide 4 Try.f4 rfl rfl rfl rfl rfl rfl rfl ⟨rfl, rfl, rfl, rfl, rfl⟩ rfl rfl rfl rfl rfl (by kernel_rfl) Try.func4 (by kernel_rfl)
    (of_decide_eq_true (by kernel_rfl)) (by unfold Func.isWrapper; first | (rw [if_pos (by decide +kernel)]; kernel_rfl) | (rw [if_neg (by decide +kernel)]; exact ⟨rfl, rfl⟩))
    (fun os started H enc _ => lifted os started H enc)

/-- SieveFirst -/
theorem proved : Rows.SieveFirstSaid := over
#print axioms proved
end Go.Proofs.Ytmhggafgdilgeaa.sieveFirst
