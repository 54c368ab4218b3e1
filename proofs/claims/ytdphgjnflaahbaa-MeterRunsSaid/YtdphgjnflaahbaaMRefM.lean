/-
  Contracts of functions, and plain facts about them, that a claim of this seat uses.
-/
import Derived.Test.YtdphgjnflaahbaaSx
import Derived.Test.YtdphgjnflaahbaaMWideNum
import Derived.Test.YtdphgjnflaahbaaMRefA
import Derived.Test.YtdphgjnflaahbaaMRefB
import Derived.Test.YtdphgjnflaahbaaProg
namespace Go.Proofs.Ytdphgjnflaahbaa
open Go.Sx
set_option linter.unusedVariables false
set_option linter.unusedSimpArgs false
set_option maxRecDepth 100000

/-! the reference's product. -/
theorem fn23 : FnOf Try.prog 23 Try.f23 := ⟨Try.func23, rfl, rfl, mixed⟩
theorem pv_upd {g h : Nat → Int} {j : Nat} (h1 : ∀ r, r ≠ j → h r = g r) : ∀ {N : Nat}, j < N → pv h N = pv g N + (h j - g j) * B j
  | 0, hj => by omega
  | N + 1, hj => by
    simp only [pv]
    by_cases e : j = N
    · subst e
      rw [pv_congr (g := h) (h := g) fun r hr => h1 r (by omega), Int.sub_mul]; omega
    · rw [pv_upd h1 (show j < N by omega), h1 N (by omega)]; omega
theorem mul_lt {i l : Nat} {A n : Int} (hA : 0 ≤ A ∧ A < B i) (hn : 0 ≤ n ∧ n < B l) : A * n < B (i + l) := by
  rw [show B (i + l) = B i * B l from Int.pow_add ..]
  have h1 : A * n ≤ A * B l := Int.mul_le_mul_of_nonneg_left (by omega) hA.1
  have h2 : A * B l < B i * B l := Int.mul_lt_mul_of_pos_right hA.2 (B_pos l)
  omega
theorem row_val {a b : IS} {i k : Nat} (hk : b.len ≤ k) : pv a.g i * nv b + a.g i * pv (ext b) k * B i = pv a.g (i + 1) * nv b := by
  rw [ext_pv hk]
  simp only [pv]
  rw [Int.add_mul, Int.mul_right_comm]
theorem row_end {a b : IS} {i k N : Nat} {g : Nat → Int} {c : Int} (ha : Dig a.g (i + 1)) (hb : Wf b) (hg : Dig g N) (hc : 0 < c) (hk : b.len ≤ k) (h : pv g N + c * B (i + k) = pv a.g i * nv b + a.g i * pv (ext b) k * B i) : k ≤ b.len := by
  rw [row_val hk] at h
  have h1 := mul_lt (pv_bd ha) (pv_bd hb.dig)
  have h2 := (pv_bd hg).1
  have h3 := B_pos (i + k)
  have h4 : 1 * B (i + k) ≤ c * B (i + k) := Int.mul_le_mul_of_nonneg_right (by omega) (by omega)
  rcases Nat.lt_or_ge b.len k with h5 | h5
  · have := B_mono (show i + 1 + b.len ≤ i + k by omega)
    have e : pv b.g b.len = nv b := rfl
    rw [e] at h1
    omega
  · exact h5
theorem row_step {a b : IS} {i k N : Nat} {g h : Nat → Int} {c s : Int} (hi : i + k < N) (h1 : ∀ r, r ≠ i + k → h r = g r) (h2 : h (i + k) = s % 65536) (hs : s = c + g (i + k) + a.g i * ext b k)
    (hv : pv g N + c * B (i + k) = pv a.g i * nv b + a.g i * pv (ext b) k * B i) : pv h N + s / 65536 * B (i + (k + 1)) = pv a.g i * nv b + a.g i * pv (ext b) (k + 1) * B i := by
  rw [pv_upd h1 hi, h2, show i + (k + 1) = i + k + 1 from rfl, B_succ, Int.sub_mul, show pv (ext b) (k + 1) = pv (ext b) k + ext b k * B k from rfl, Int.mul_add, Int.add_mul]
  have e1 := carry_step s (B (i + k))
  have e2 : a.g i * (ext b k * B k) * B i = a.g i * ext b k * B (i + k) := by
    rw [show B (i + k) = B i * B k from Int.pow_add .., Int.mul_comm (B i), ← Int.mul_assoc, ← Int.mul_assoc]
  rw [e2]
  rw [hs] at e1 ⊢
  rw [Int.add_mul, Int.add_mul] at e1
  omega
theorem dig_upd {g h : Nat → Int} {j N : Nat} (hg : Dig g N) (h1 : ∀ r, r ≠ j → h r = g r) (h2 : 0 ≤ h j ∧ h j < 65536) : Dig h N := fun r hr => by
  by_cases e : r = j
  · subst e; exact h2
  · rw [h1 r e]; exact hg r hr
abbrev laMulO (a b : IS) : LA where
  ι := (Nat → Int) × Int
  inv := fun x => 0 ≤ x.2 ∧ x.2 ≤ a.len ∧ Dig x.1 (a.len + b.len + 1) ∧ pv x.1 (a.len + b.len + 1) = pv a.g x.2.toNat * nv b
  T := fun x => ⟨66, [(0, D1 0 a), (1, D1 1 b), (5, .one (.a (.slc 2 1 0 (a.len + b.len + 1) (a.len + b.len + 1)))), (17, int_ .i64 a.len), (18, int_ .i64 x.2)], [roI a, roI b, rwI (a.len + b.len + 1) x.1]⟩
  μ := fun x => (a.len - x.2).toNat
  ren := fun S => [0, 1, S.ix 5]
abbrev laMulI (a b : IS) (i : Int) : LA where
  ι := (Nat → Int) × Int × Int
  inv := fun x => 0 ≤ i ∧ i < a.len ∧ Dig x.1 (a.len + b.len + 1) ∧ (0 ≤ x.2.1 ∧ x.2.1 < 65536) ∧ (0 ≤ x.2.2 ∧ x.2.2 ≤ b.len + 1) ∧ (0 < x.2.1 → x.2.2 ≤ b.len) ∧
    pv x.1 (a.len + b.len + 1) + x.2.1 * B (i.toNat + x.2.2.toNat) = pv a.g i.toNat * nv b + a.g i.toNat * pv (ext b) x.2.2.toNat * B i.toNat
  T := fun x => ⟨66, [(0, D1 0 a), (1, D1 1 b), (5, .one (.a (.slc 2 1 0 (a.len + b.len + 1) (a.len + b.len + 1)))), (17, int_ .i64 a.len), (18, int_ .i64 i), (6, int_ .i64 i), (7, int_ .i64 x.2.1), (8, int_ .i64 x.2.2)], [roI a, roI b, rwI (a.len + b.len + 1) x.1]⟩
  μ := fun x => (b.len + 2 - x.2.2).toNat
  ren := fun S => [0, 1, S.ix 5]
noncomputable def cxMul (a b : IS) : Cx Try.prog := { ps := [trimS], es := [], is := [], n0 := 2, loops := fun i => match i with | 3 => some (.inv (laMulO a b)) | 7 => some (.here 18 (laMulI a b)) | _ => none, cuts := fun _ => none }
theorem pv_zero : ∀ n : Nat, pv (fun _ => 0) n = 0
  | 0 => rfl
  | n + 1 => by simp only [pv]; rw [pv_zero n]; omega
theorem mul_next {a b : IS} (ha : Wf a) (hb : Wf b) {i k c s : Int} {g : Nat → Int} (I : (laMulI a b i).inv (g, c, k)) (hs : s = c + g (i + k).toNat + a.g i.toNat * ext b k.toNat) (hk : k < b.len ∨ 0 < c) :
    (laMulI a b i).inv (fun r => if r = (i + k).toNat then s % 65536 else g r, s / 65536, k + 1) := by
  obtain ⟨i1, i2, i3, ⟨i4, i5⟩, ⟨i6, i7⟩, i8, i9⟩ := I
  dsimp only at *
  have e1 : (i + k).toNat = i.toNat + k.toNat := by omega
  have e2 : (k + 1).toNat = k.toNat + 1 := by omega
  have hkb : k ≤ b.len := by rcases hk with h | h; omega; exact i8 h
  have hlt : i.toNat + k.toNat < a.len + b.len + 1 := by omega
  have hd := i3 _ hlt
  have ha1 := ha.dig i.toNat (by omega)
  have hb1 : 0 ≤ ext b k.toNat ∧ ext b k.toNat < 65536 := by
    by_cases h : k.toNat < b.len
    · rw [ext_in h]; exact hb.dig _ h
    · rw [ext_out (by omega)]; omega
  have p0 : 0 ≤ a.g i.toNat * ext b k.toNat := Int.mul_nonneg ha1.1 hb1.1
  have p1 : a.g i.toNat * ext b k.toNat ≤ 65535 * 65535 := Int.mul_le_mul (by omega) (by omega) hb1.1 (by decide)
  rw [e1] at hs ⊢
  rw [e2]
  have n1 : ∀ r, r ≠ i.toNat + k.toNat → (if r = i.toNat + k.toNat then s % 65536 else g r) = g r := fun r hr => if_neg hr
  have n2 : (if i.toNat + k.toNat = i.toNat + k.toNat then s % 65536 else g (i.toNat + k.toNat)) = s % 65536 := if_pos rfl
  have hdig : Dig (fun r => if r = i.toNat + k.toNat then s % 65536 else g r) (a.len + b.len + 1) := dig_upd i3 n1 (by rw [n2]; omega)
  have hv := row_step (a := a) (b := b) (g := g) (h := fun r => if r = i.toNat + k.toNat then s % 65536 else g r) hlt n1 n2 hs i9
  refine ⟨i1, i2, hdig, by omega, by omega, fun hc => ?_, hv⟩
  by_cases h : k + 1 ≤ b.len
  · exact h
  · have := row_end (k := k.toNat + 1) (fun r hr => ha.dig r (by omega)) hb hdig hc (by omega) hv
    omega
attribute [local irreducible] enter anyAlt
set_option maxHeartbeats 8000000 in
theorem mul_ref_runs (a b : IS) (hp : obp (some (Wf a ∧ Wf b ∧ a.len ≤ 400 ∧ b.len ≤ 400))) : Runs (cxMul a b) Try.f23 [D1 0 a, D1 1 b] [roI a, roI b] fun v m => anyAlt [roI a, roI b] [0, 1, v.ix] v m (newD 2 [roI a, roI b] (nv a * nv b)) := by
  obtain ⟨ha, hb, ha1, hb1⟩ := hp
  have a1 := ha.n
  have b1 := hb.n
  repeat' (first | with_reducible exact trivial | with_reducible exact rfl | with_reducible exact Nat.le_refl _ | with_reducible exact (fun _ _ => rfl) | ((conv => whnf); first | (refine fun (x : (Nat → Int) × Int) => ?_) | (refine fun (y : (Nat → Int) × Int × Int) => ?_) | (refine fun _ => ?_) | refine ⟨?_, ?_⟩ | exact trivial | exact Nat.le_refl _ | exact lex_q (by kernel_rfl) | exact lex_t (by kernel_rfl) | exact lex_h (by kernel_rfl) | fail))
  any_goals (refine enter_mk (la := laMulO a b) ⟨_, _⟩ ?_ (by (repeat' (first | with_reducible exact rfl | exact Nat.le_refl _ | with_reducible exact (fun _ _ => rfl) | ((conv => whnf); first | refine ⟨?_, ?_⟩ | exact trivial | fail))); first | ((all_goals ((try dsimp only [laMulO] at *); (all_goals (try simp (disch := omega) only [w64', wu64', tdiv_pos, tmod_pos, Int.toNat_natCast, Nat.zero_add] at *)); (all_goals (omega)))); done) | fail))
  any_goals (refine enter_mk (la := laMulI a b _) ⟨_, _, _⟩ ?_ (by (repeat' (first | with_reducible exact rfl | exact Nat.le_refl _ | with_reducible exact (fun _ _ => rfl) | ((conv => whnf); first | refine ⟨?_, ?_⟩ | exact trivial | fail))); first | ((all_goals ((try dsimp only [laMulI] at *); (all_goals (try simp (disch := omega) only [w64', wu64', tdiv_pos, tmod_pos, Int.toNat_natCast, Nat.zero_add] at *)); (all_goals (omega)))); done) | fail))
  any_goals (refine alt_fam (α := DS) ⟨_, _, _⟩ ?_ (by (repeat' (first | with_reducible exact rfl | exact Nat.le_refl _ | with_reducible exact (fun _ _ => rfl) | ((conv => whnf); first | refine ⟨?_, ?_⟩ | exact trivial | fail))); first | ((all_goals ((try dsimp only [laMulO] at *); (all_goals (try simp (disch := omega) only [w64', wu64', tdiv_pos, tmod_pos, Int.toNat_natCast, Nat.zero_add] at *)); (all_goals (omega)))); done) | fail))
  all_goals (try dsimp only [laMulO, laMulI, cutR, cutL, id] at *)
  all_goals (try simp (disch := omega) only [w64', wu64', tdiv_pos, tmod_pos, Int.toNat_natCast, Nat.zero_add] at *)
  all_goals (try omega)
  · refine ⟨by omega, by omega, fun r hr => by show (0 : Int) ≤ 0 ∧ (0 : Int) < 65536; omega, ?_⟩
    rw [pv_zero]; show 0 = pv a.g 0 * nv b; simp [pv]
  · obtain ⟨i1, i2, i3, i4⟩ := ‹(laMulO a b).inv x›
    refine ⟨by omega, by omega, i3, by omega, by omega, by omega, ?_⟩
    rw [i4]
    show _ + 0 * _ = _ + _ * pv (ext b) 0 * _
    simp [pv]
  · have I := ‹(laMulI a b x.2).inv y›
    obtain ⟨i1, i2, i3, ⟨i4, i5⟩, ⟨i6, i7⟩, i8, i9⟩ := I
    try dsimp only at *
    have hd := i3 (x.2 + y.2.2).toNat (by omega)
    have ha2 := ha.dig x.2.toNat (by omega)
    have hb2 := hb.dig y.2.2.toNat (by omega)
    have p0 : 0 ≤ a.g x.2.toNat * b.g y.2.2.toNat := Int.mul_nonneg ha2.1 hb2.1
    have p1 : a.g x.2.toNat * b.g y.2.2.toNat ≤ 65535 * 65535 := Int.mul_le_mul (by omega) (by omega) hb2.1 (by decide)
    have key := mul_next ha hb (i := x.2) (k := y.2.2) (c := y.2.1) (g := y.1) (s := y.2.1 + y.1 (x.2 + y.2.2).toNat + a.g x.2.toNat * b.g y.2.2.toNat) ⟨i1, i2, i3, ⟨i4, i5⟩, ⟨i6, i7⟩, i8, i9⟩ (by rw [ext_in (by omega)]) (.inl (by omega))
    simp (disch := omega) only [w64', wu64', tdiv_pos, tmod_pos, Int.toNat_natCast, Nat.zero_add]
    exact key
  · have I := ‹(laMulI a b x.2).inv y›
    obtain ⟨i1, i2, i3, ⟨i4, i5⟩, ⟨i6, i7⟩, i8, i9⟩ := I
    try dsimp only at *
    have hd := i3 (x.2 + y.2.2).toNat (by omega)
    have key := mul_next ha hb (i := x.2) (k := y.2.2) (c := y.2.1) (g := y.1) (s := y.2.1 + y.1 (x.2 + y.2.2).toNat) ⟨i1, i2, i3, ⟨i4, i5⟩, ⟨i6, i7⟩, i8, i9⟩ (by rw [ext_out (by omega)]; omega) (.inr (by omega))
    simp (disch := omega) only [w64', wu64', tdiv_pos, tmod_pos, Int.toNat_natCast, Nat.zero_add]
    exact key
  · have I := ‹(laMulI a b x.2).inv y›
    obtain ⟨i1, i2, i3, ⟨i4, i5⟩, ⟨i6, i7⟩, i8, i9⟩ := I
    try dsimp only at *
    refine ⟨by omega, by omega, i3, ?_⟩
    rw [row_val (by omega), show y.2.1 = 0 by omega, Int.zero_mul, Int.add_zero] at i9
    rw [i9, show (x.2 + 1).toNat = x.2.toNat + 1 by omega]
  · obtain ⟨i1, i2, i3, i4⟩ := ‹(laMulO a b).inv x›
    try dsimp only at *
    refine (trim_val i3 (Nat.le_refl _) (by omega) (by omega) ?_).full
    rw [i4, show x.2.toNat = a.len by omega]; rfl
noncomputable def mulRefS : ESpec Try.prog := newN fn23 (.s2 dS dS) (fun x => cxMul x.1 x.2) (fun x => some (Wf x.1 ∧ Wf x.2 ∧ x.1.len ≤ 400 ∧ x.2.len ≤ 400)) (fun x => newD 2 [roI x.1, roI x.2] (nv x.1 * nv x.2)) (fun _ v _ => [0, 1, v.ix]) (fun _ => rfl) (fun x a ha => by rw [List.mem_singleton.1 ha]; exact fun _ => rfl) (fun x => mul_ref_runs x.1 x.2)

end Go.Proofs.Ytdphgjnflaahbaa
