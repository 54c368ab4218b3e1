/-
  Contracts of functions, and plain facts about them, that a claim of this seat uses.
-/
import Derived.Test.YtlhlegjndembdaaSx
import Derived.Test.YtlhlegjndembdaaMgE
import Derived.Test.YtlhlegjndembdaaMgG
import Derived.Test.YtlhlegjndembdaaProg
namespace Go.Proofs.Ytlhlegjndembdaa
open Go.Sx
set_option linter.unusedVariables false
set_option linter.unusedSimpArgs false
set_option maxRecDepth 100000

/-! merge: rows of steps. -/
structure MS where
  len : Nat
  cap : Nat
  N : Nat
  lk : Nat → Bool
  now : Nat → Int
  way : Nat → Int
  seq : Nat → Int
def roM (a : MS) : Option Reg := some ⟨false, .tab a.N [.bool a.lk, .int .i64 a.now, .int .i64 a.way, .int .i64 a.seq]⟩
def Mw (a : MS) : Prop := a.len ≤ a.cap ∧ a.len ≤ a.N ∧ a.cap ≤ 9223372036854775807
def mcV (c : MC) : SV := .one (.agg [i_ c.w, i_ c.o0, i_ c.o1, i_ c.o2, i_ c.a0, i_ c.a1, i_ c.a2, i_ c.ev, i_ c.li])
def mcL (c : MC) : Option Reg := some ⟨true, .flat [i_ c.w, i_ c.o0, i_ c.o1, i_ c.o2, i_ c.a0, i_ c.a1, i_ c.a2, i_ c.ev, i_ c.li]⟩
theorem den_ms {a b c d e f g h i : Int} {A : Option Addr} {n cap : Nat} : #[SV.den (envOf [A]) (mcV ⟨a, b, c, d, e, f, g, h, i⟩), SV.den (envOf [A]) (.one (.a (.slc 0 4 0 n cap)))] = #[.agg #[.int .i64 a, .int .i64 b, .int .i64 c, .int .i64 d, .int .i64 e, .int .i64 f, .int .i64 g, .int .i64 h, .int .i64 i], .slice A n cap] := by
  show #[Value.agg _, SA.den (envOf [A]) (.slc 0 4 0 n cap)] = _
  rw [den_slc (A := A) rfl]; rfl
noncomputable def mgO (t : Mg) : Option Reg := some ⟨true, .obj 84 (mgP t) (boxI mgK)⟩
theorem mg_eta (t : Mg) : (⟨t.w, t.o0, t.o1, t.o2, t.a0, t.a1, t.a2, t.every, t.limit, t.next, t.passed, t.again, t.silent, fun k => ⟨(t.ones k).way, (t.ones k).len, (t.ones k).reset, (t.ones k).any, (t.ones k).last, (t.ones k).had, (t.ones k).wen, (t.ones k).k0, (t.ones k).k1, (t.ones k).k2, (t.ones k).k3, (t.ones k).resets, (t.ones k).lost⟩, ⟨t.all.way, t.all.len, t.all.reset, t.all.any, t.all.last, t.all.had, t.all.wen, t.all.k0, t.all.k1, t.all.k2, t.all.k3, t.all.resets, t.all.lost⟩⟩ : Mg) = t := rfl
theorem mgIn_w (t : Mg) (n y q : Int) : (mgIn t n y q).2.2.w = t.w := by
  unfold mgIn mgT2 mgT1
  split
  · rfl
  · split
    · rfl
    · split
      · rfl
      · split
        · rfl
        · split <;> rfl
theorem sumP_bd {f : Nat → Sq} {b : Int} : ∀ n : Nat, (∀ k, k < n → 0 ≤ ps (f k) ∧ ps (f k) ≤ b) → 0 ≤ sumP f n ∧ sumP f n ≤ b * n
  | 0, _ => by show (0 : Int) ≤ 0 ∧ (0 : Int) ≤ b * ((0 : Nat) : Int); simp
  | n + 1, h => by
    have h1 := sumP_bd n fun k hk => h k (by omega)
    have h2 := h n (by omega)
    show 0 ≤ sumP f n + ps (f n) ∧ sumP f n + ps (f n) ≤ b * ((n + 1 : Nat) : Int)
    rw [show ((n + 1 : Nat) : Int) = (n : Int) + 1 by omega, Int.mul_add, Int.mul_one]
    omega
theorem ad_0 {c : MC} (h : MN c 0) : Ad (mg0 c 0) 0 0 := by
  obtain ⟨⟨hk, ho, ha⟩, hn⟩ := h
  unfold CfOK at ho ha
  have z : ∀ f : Nat → Sq, (∀ k, ps (f k) = 0) → ∀ n, sumP f n = 0 := fun f hf n => by
    induction n with
    | zero => rfl
    | succ n ih => show sumP f n + ps (f n) = 0; rw [ih, hf]; rfl
  have kz : ∀ w l r : Int, KB (sq0 w l r 0) 0 := fun w l r => ⟨⟨Int.le_refl _, Int.le_refl _⟩, ⟨Int.le_refl _, Int.le_refl _⟩, ⟨Int.le_refl _, Int.le_refl _⟩, Int.le_refl _, Int.le_refl _⟩
  refine ⟨fun k _ => ?_, ?_, fun k _ => kz _ _ _, kz _ _ _, ?_, rfl⟩
  · have h3 := ho.2.1; dsimp only at h3; show 1 ≤ c.o1 ∧ c.o1 ≤ 9223372036854775807; omega
  · have h3 := ha.2.1; dsimp only at h3; show 1 ≤ c.a1 ∧ c.a1 ≤ 9223372036854775807; omega
  · show (0 : Int) + 0 + 0 + 0 = _
    exact (z _ (fun _ => rfl) _).symm
theorem cq_at {t : Mg} {c : Nat} (h : c < t.w) : ctQ t (c : Int) = t.ones c := by rw [cq_k (by omega)]; rfl
theorem mg0_w {c : MC} (h : MN c 0) : ((mg0 c 0).w : Int) = c.w := by
  have := (mn_w h).1
  show ((c.w.toNat : Nat) : Int) = c.w
  omega
theorem w_8 {c : MC} {t : Mg} (h : MN c 0) (hw : (t.w : Int) = c.w) : 1 ≤ t.w ∧ t.w ≤ 8 := by have := mn_w h; omega
theorem sumP_0 (f : Nat → Sq) : sumP f 0 = 0 := rfl
theorem ad_sum {t : Mg} {i : Nat} {tk : Int} (h : Ad t i tk) (hi : i ≤ 80) (c : Nat) (hc : c ≤ t.w) : 0 ≤ sumP t.ones c ∧ sumP t.ones c ≤ 160 * c :=
  sumP_bd c fun k hk => by have := h.one k (by omega); unfold KB at this; unfold ps; omega
theorem sum_next {t : Mg} {i c : Nat} {tk : Int} (h : Ad t i tk) (hi : i ≤ 80) (hw : t.w ≤ 8) (hc : c < t.w) : IntKind.i64.wrap (sumP t.ones c + IntKind.i64.wrap ((ctQ t (c : Int)).k0 + (ctQ t (c : Int)).k3)) = sumP t.ones (c + 1) := by
  have h1 := ad_sum h hi c (by omega)
  have h2 := h.one c hc
  unfold KB at h2
  rw [cq_at hc, w64' (n := (t.ones c).k0 + (t.ones c).k3) (by omega) (by omega), w64' (by omega) (by omega)]
  rfl
theorem sum_end {t : Mg} {i : Nat} {tk y : Int} (h : Ad t i tk) (hi : i ≤ 80) (hy : y = (t.w : Int)) : IntKind.i64.wrap (IntKind.i64.wrap (IntKind.i64.wrap ((ctQ t y).k0 + (ctQ t y).k1) + (ctQ t y).k2) + (ctQ t y).k3) = sumP t.ones t.w ∧ IntKind.i64.wrap ((ctQ t y).k0 + (ctQ t y).k3) = tk := by
  have h2 := h.all
  have h3 := h.sum
  have h4 := h.tk
  unfold KB at h2
  rw [cq_a hy, w64' (n := t.all.k0 + t.all.k1) (by omega) (by omega), w64' (n := t.all.k0 + t.all.k1 + t.all.k2) (by omega) (by omega), w64' (n := t.all.k0 + t.all.k1 + t.all.k2 + t.all.k3) (by omega) (by omega), w64' (by omega) (by omega)]
  exact ⟨h3, h4⟩
theorem tk_bd {t : Mg} {i : Nat} {tk : Int} (h : Ad t i tk) (hi : i ≤ 80) : 0 ≤ tk ∧ tk ≤ 160 := by
  have h2 := h.all
  have h4 := h.tk
  unfold KB at h2
  omega
theorem tk_t {b : Bool} {tk : Int} (h : b = true) : tk_ b tk = tk + 1 := by rw [h]; rfl
theorem tk_f {b : Bool} {tk : Int} (h : b = false) : tk_ b tk = tk := by rw [h]; rfl

end Go.Proofs.Ytlhlegjndembdaa
