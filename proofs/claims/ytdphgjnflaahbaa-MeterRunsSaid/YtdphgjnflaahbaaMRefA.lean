/-
  Contracts of functions, and plain facts about them, that a claim of this seat uses.
-/
import Derived.Test.YtdphgjnflaahbaaSx
import Derived.Test.YtdphgjnflaahbaaMWideNum
import Derived.Test.YtdphgjnflaahbaaProg
namespace Go.Proofs.Ytdphgjnflaahbaa
open Go.Sx
set_option linter.unusedVariables false
set_option linter.unusedSimpArgs false
set_option maxRecDepth 100000

theorem mixed : Try.prog.follows .mixedOrders = true := by kernel_rfl
theorem fn31 : FnOf Try.prog 31 Try.f31 := ⟨Try.func31, rfl, rfl, mixed⟩
theorem fn24 : FnOf Try.prog 24 Try.f24 := ⟨Try.func24, rfl, rfl, mixed⟩
theorem fn30 : FnOf Try.prog 30 Try.f30 := ⟨Try.func30, rfl, rfl, mixed⟩
theorem fn29 : FnOf Try.prog 29 Try.f29 := ⟨Try.func29, rfl, rfl, mixed⟩
def D1 (j : Nat) (s : IS) : SV := .one (.a (.slc j 1 0 s.len s.cap))
def roI (s : IS) : Option Reg := some ⟨false, .tab s.N [.int .i64 s.g]⟩
def rwI (cap : Nat) (g : Nat → Int) : Option Reg := some ⟨true, .tab cap [.int .i64 g]⟩
structure DS where
  len : Nat
  cap : Nat
  g : Nat → Int
/-- a slice of digits of the number n -/
def DVal (n : Int) (y : DS) : Prop := y.len ≤ y.cap ∧ y.cap ≤ 9223372036854775807 ∧ y.len ≤ 1000 ∧ Dig y.g y.len ∧ (y.len = 0 ∨ y.g (y.len - 1) ≠ 0) ∧ pv y.g y.len = n
theorem DVal.wf {n : Int} {y : DS} (h : DVal n y) : Wf ⟨y.len, y.cap, y.cap, y.g⟩ := ⟨h.2.2.2.1, h.2.2.2.2.1, h.1, h.2.1, h.1, h.2.2.1⟩
theorem DVal.nv {n : Int} {y : DS} (h : DVal n y) {c N : Nat} : nv ⟨y.len, c, N, y.g⟩ = n := h.2.2.2.2.2
theorem DVal.len_le {n : Int} {y : DS} (h : DVal n y) {k : Nat} (hn : n < B k) : y.len ≤ k := by
  obtain ⟨_, _, _, j4, j5, j6⟩ := h
  cases hl : y.len with
  | zero => omega
  | succ m =>
    rw [hl] at j4 j5 j6
    have h1 := pv_top j4 (by rcases j5 with h | h; omega; exact h)
    rcases Nat.lt_or_ge m k with h2 | h2
    · omega
    · have := B_mono h2; omega
/-- all that is handed on of such a slice -/
def DV (n : Int) (y : DS) : Prop := DVal n y ∧ Wf ⟨y.len, y.cap, y.cap - 0, fun q => y.g (q + 0)⟩ ∧ nv ⟨y.len, y.cap, y.cap - 0, fun q => y.g (q + 0)⟩ = n ∧ 0 ≤ n ∧ (8 < y.len → 340282366920938463463374607431768211456 ≤ n) ∧ (y.len ≤ 8 → n < 340282366920938463463374607431768211456) ∧ y.len ≤ 1000 ∧ (y.len = 0 ↔ n = 0)
theorem DVal.full {n : Int} {y : DS} (h : DVal n y) : DV n y := by
  have hb : B 8 = 340282366920938463463374607431768211456 := by decide
  refine ⟨h, h.wf, h.nv, ?_, fun h1 => ?_, fun h1 => ?_, h.2.2.1, ?_⟩
  · have := h.wf.nonneg; rwa [h.nv] at this
  · rcases Int.lt_or_le n (B 8) with h2 | h2
    · have := h.len_le h2; omega
    · omega
  · have h2 := (pv_bd h.2.2.2.1).2
    have h3 := B_mono h1
    have := h.2.2.2.2.2; omega
  · have := h.wf.zero; rw [h.nv] at this; exact this.symm
def newD (k : Nat) (ro : Mem) (n : Int) : List Alt := [.fam DS (DV n) (fun y => .one (.a (.slc k 1 0 y.len y.cap))) (fun y => ro ++ [rwI y.cap y.g])]
abbrev dS : Lens IS := Lens.ints .i64

abbrev laTrim (s : IS) : LA where
  ι := Int
  inv := fun k => 0 ≤ k ∧ k ≤ s.len ∧ tl s.g s.len = tl s.g k.toNat
  T := fun k => ⟨21, [(0, D1 0 s), (3, int_ .i64 k)], [roI s]⟩
  μ := fun k => k.toNat
  ren := fun _ => [0]
noncomputable def cxTrim (s : IS) : Cx Try.prog := { ps := [], es := [], is := [], n0 := 1, loops := fun i => match i with | 2 => some (.inv (laTrim s)) | _ => none, cuts := fun _ => none }
attribute [local irreducible] enter anyAlt
theorem trim_runs (s : IS) (hp : obp (some (s.len ≤ s.cap ∧ s.len ≤ s.N ∧ s.cap ≤ 9223372036854775807))) : Runs (cxTrim s) Try.f31 [D1 0 s] [roI s] fun v _ => isRes (.one (.a (.slc 0 1 0 (tl s.g s.len) s.cap))) v := by
  obtain ⟨h1, h2, h3⟩ := hp
  repeat' (first | with_reducible exact trivial | with_reducible exact rfl | with_reducible exact Nat.le_refl _ | with_reducible exact (fun _ _ => rfl) | ((conv => whnf); first | (refine fun (x : Int) => ?_) | (refine fun _ => ?_) | refine ⟨?_, ?_⟩ | exact trivial | exact Nat.le_refl _ | exact lex_q (by kernel_rfl) | exact lex_t (by kernel_rfl) | exact lex_h (by kernel_rfl) | fail))
  any_goals (refine enter_mk (la := laTrim s) _ ?_ (by (repeat' (first | with_reducible exact rfl | exact Nat.le_refl _ | with_reducible exact (fun _ _ => rfl) | ((conv => whnf); first | refine ⟨?_, ?_⟩ | exact trivial | fail))); first | ((all_goals ((try dsimp only [laTrim] at *); (all_goals (try simp (disch := omega) only [w64', wu64', tdiv_pos, tmod_pos, Int.toNat_natCast, Nat.zero_add] at *)); (all_goals (omega)))); done) | fail))
  all_goals (try dsimp only [laTrim, cutR, cutL, id] at *)
  all_goals (try simp (disch := omega) only [w64] at *)
  all_goals (try omega)
  · exact ⟨by omega, by omega, rfl⟩
  · rename_i h _ h2
    rw [Nat.zero_add] at h2
    refine ⟨by omega, by omega, ?_⟩
    rw [h.2.2, tl_succ _ _ (by omega), if_pos h2]
  · rename_i h _ h2
    rw [Nat.zero_add] at h2
    rw [h.2.2, tl_succ _ _ (by omega), if_neg h2]
  · rename_i h _
    rw [h.2.2, show x = 0 by omega]; rfl
noncomputable def trimS : PSpec Try.prog := readN fn31 (.s1 dS) cxTrim (fun s => some (s.len ≤ s.cap ∧ s.len ≤ s.N ∧ s.cap ≤ 9223372036854775807)) (fun s => .one (.a (.slc 0 1 0 (tl s.g s.len) s.cap))) (fun _ => rfl) (fun _ => rfl) (fun _ => rfl) trim_runs

/-! ### which is greater -/
abbrev laCmp (a b : IS) : LA where
  ι := Int
  inv := fun k => -1 ≤ k ∧ k < a.len ∧ ∀ r : Nat, k < (r : Int) → r < a.len → a.g r = b.g r
  T := fun k => ⟨41, [(0, D1 0 a), (1, D1 1 b), (5, int_ .i64 k)], [roI a, roI b]⟩
  μ := fun k => (k + 1).toNat
  ren := fun _ => [0, 1]
noncomputable def cxCmp (a b : IS) : Cx Try.prog := { ps := [], es := [], is := [], n0 := 2, loops := fun i => match i with | 6 => some (.inv (laCmp a b)) | _ => none, cuts := fun _ => none }
theorem cmp_ref_runs (a b : IS) (hp : obp (some (Wf a ∧ Wf b))) : Runs (cxCmp a b) Try.f24 [D1 0 a, D1 1 b] [roI a, roI b] fun v _ => isRes (int_ .i64 (cmpI3 (nv a) (nv b))) v := by
  obtain ⟨ha, hb⟩ := hp
  have a1 := ha.n
  have a2 := ha.small
  have b1 := hb.n
  repeat' (first | with_reducible exact trivial | with_reducible exact rfl | with_reducible exact Nat.le_refl _ | with_reducible exact (fun _ _ => rfl) | ((conv => whnf); first | (refine fun (x : Int) => ?_) | (refine fun _ => ?_) | refine ⟨?_, ?_⟩ | exact trivial | exact Nat.le_refl _ | exact lex_q (by kernel_rfl) | exact lex_t (by kernel_rfl) | exact lex_h (by kernel_rfl) | fail))
  any_goals (refine enter_mk (la := laCmp a b) _ ?_ (by (repeat' (first | with_reducible exact rfl | exact Nat.le_refl _ | with_reducible exact (fun _ _ => rfl) | ((conv => whnf); first | refine ⟨?_, ?_⟩ | exact trivial | fail))); first | ((all_goals ((try dsimp only [laCmp] at *); (all_goals (try simp (disch := omega) only [w64', wu64', tdiv_pos, tmod_pos, Int.toNat_natCast, Nat.zero_add] at *)); (all_goals (omega)))); done) | fail))
  all_goals (try dsimp only [laCmp, cutR, cutL, id] at *)
  all_goals (try simp (disch := omega) only [w64, Nat.zero_add] at *)
  all_goals (try omega)
  · rename_i _ h
    have := ha.len_lt hb (by omega)
    unfold cmpI3; rw [if_pos this]
  · rename_i _ h
    have := hb.len_lt ha (by omega)
    unfold cmpI3; rw [if_neg (by omega), if_neg (by omega)]
  · exact ⟨by omega, by omega, fun r h1 h2 => by omega⟩
  · rename_i h1 h2 h3 h4
    have hl : a.len = b.len := by omega
    have : nv a < nv b := by
      have := pv_cmp (g := a.g) (h := b.g) (n := a.len) (i := x.toNat) (by omega) ha.dig (by rw [hl]; exact hb.dig) (fun r h5 h6 => h2.2.2 r (by omega) h6) h4
      unfold nv; rw [← hl]; exact this
    unfold cmpI3; rw [if_pos this]
  · rename_i h1 h2 h3 h4 h5
    have hl : a.len = b.len := by omega
    have : nv b < nv a := by
      have := pv_cmp (g := b.g) (h := a.g) (n := a.len) (i := x.toNat) (by omega) (by rw [hl]; exact hb.dig) ha.dig (fun r h5 h6 => (h2.2.2 r (by omega) h6).symm) h5
      unfold nv; rw [← hl]; exact this
    unfold cmpI3; rw [if_neg (by omega), if_neg (by omega)]
  · rename_i h1 h2 h3 h4 h5
    refine ⟨by omega, by omega, fun r h6 h7 => ?_⟩
    by_cases he : (r : Int) = x
    · have : r = x.toNat := by omega
      subst this; omega
    · exact h2.2.2 r (by omega) h7
  · rename_i h1 h2 h3
    have hl : a.len = b.len := by omega
    have : nv a = nv b := by
      unfold nv; rw [← hl]
      exact pv_congr fun r hr => h2.2.2 r (by omega) hr
    unfold cmpI3; rw [if_neg (by omega), if_pos this]
noncomputable def cmpRefS : PSpec Try.prog := readN fn24 (.s2 dS dS) (fun x => cxCmp x.1 x.2) (fun x => some (Wf x.1 ∧ Wf x.2)) (fun x => int_ .i64 (cmpI3 (nv x.1) (nv x.2))) (fun _ => rfl) (fun _ => rfl) (fun _ => rfl) (fun x => cmp_ref_runs x.1 x.2)

/-! ### the digits of a number -/
theorem pv_snoc {g h : Nat → Int} {i : Nat} {d : Int} (h1 : ∀ r, r < i → h r = g r) (h2 : h i = d) : pv h (i + 1) = pv g i + d * B i := by
  simp only [pv, h2]; rw [pv_congr h1]
theorem dig_snoc {g h : Nat → Int} {i : Nat} (hg : Dig g i) (h1 : ∀ r, r < i → h r = g r) (h2 : 0 ≤ h i ∧ h i < 65536) : Dig h (i + 1) := fun r hr => by
  rcases Nat.lt_or_ge r i with hlt | hge
  · rw [h1 r hlt]; exact hg r hlt
  · obtain rfl : r = i := by omega
    exact h2
theorem push_lt {g : Nat → Int} {i : Nat} {d : Int} {t : Tail} {r : Nat} (h : r < i) : (if r < i then g r else if r < i + 1 then [d].getD (r - i) 0 else t.i 0 r) = g r := if_pos h
theorem push_at {g : Nat → Int} {i : Nat} {d : Int} {t : Tail} : (if i < i then g i else if i < i + 1 then [d].getD (i - i) 0 else t.i 0 i) = d := by
  rw [if_neg (by omega), if_pos (by omega), Nat.sub_self]; rfl
theorem pv_push {g : Nat → Int} {i : Nat} {d : Int} {t : Tail} : pv (fun r => if r < i then g r else if r < i + 1 then [d].getD (r - i) 0 else t.i 0 r) (i + 1) = pv g i + d * B i := pv_snoc (fun r hr => push_lt hr) push_at
theorem dig_push {g : Nat → Int} {i : Nat} {d : Int} {t : Tail} (h : Dig g i) (hd : 0 ≤ d ∧ d < 65536) : Dig (fun r => if r < i then g r else if r < i + 1 then [d].getD (r - i) 0 else t.i 0 r) (i + 1) := dig_snoc h (fun r hr => push_lt hr) (by rw [push_at]; exact hd)
theorem carry_step (c b : Int) : c % 65536 * b + c / 65536 * (65536 * b) = c * b := by
  rw [← Int.mul_assoc, ← Int.add_mul, Int.mul_comm (c / 65536), Int.emod_add_mul_ediv]
abbrev laOf (n : Int) : LA where
  ι := Nat × Nat × (Nat → Int) × Int
  inv := fun x => 0 ≤ x.2.2.2 ∧ x.2.2.2 ≤ n ∧ pv x.2.2.1 x.1 + x.2.2.2 * B x.1 = n ∧ Dig x.2.2.1 x.1 ∧ (x.2.2.2 = 0 → x.1 = 0 ∨ x.2.2.1 (x.1 - 1) ≠ 0) ∧ x.1 ≤ x.2.1 ∧ x.2.1 ≤ 9223372036854775807 ∧ x.1 ≤ 4
  T := fun x => ⟨16, [(3, .one (.a (.slc 0 1 0 x.1 x.2.1))), (0, int_ .u64 x.2.2.2)], [rwI x.2.1 x.2.2.1]⟩
  μ := fun x => x.2.2.2.toNat
  ren := fun S => [S.ix 3]
noncomputable def cxOf (n : Int) : Cx Try.prog := { ps := [], es := [], is := [], n0 := 0, loops := fun i => match i with | 2 => some (.inv (laOf n)) | _ => none, cuts := fun _ => none }
theorem small_len {g : Nat → Int} {i k : Nat} {c n : Int} (hg : Dig g i) (hc : 0 < c) (h : pv g i + c * B i = n) (hn : n < B k) : i < k := by
  have h1 := (pv_bd hg).1
  have hb := B_pos i
  have h2 : 1 * B i ≤ c * B i := Int.mul_le_mul_of_nonneg_right (by omega) (by omega)
  rcases Nat.lt_or_ge i k with hlt | hge
  · exact hlt
  · have := B_mono hge; omega
theorem of_ref_runs (n : Int) (hp : obp (some (0 ≤ n ∧ n < 18446744073709551616))) : Runs (cxOf n) Try.f30 [int_ .u64 n] [] fun v m => anyAlt [] [v.ix] v m (newD 0 [] n) := by
  obtain ⟨h1, h2⟩ := hp
  repeat' (first | with_reducible exact trivial | with_reducible exact rfl | with_reducible exact Nat.le_refl _ | with_reducible exact (fun _ _ => rfl) | ((conv => whnf); first | (refine fun (x : Nat × Nat × (Nat → Int) × Int) => ?_) | (refine fun _ => ?_) | refine ⟨?_, ?_⟩ | exact trivial | exact Nat.le_refl _ | exact lex_q (by kernel_rfl) | exact lex_t (by kernel_rfl) | exact lex_h (by kernel_rfl) | fail))
  any_goals (refine enter_mk (la := laOf n) ⟨_, _, _, _⟩ ?_ (by (repeat' (first | with_reducible exact rfl | exact Nat.le_refl _ | with_reducible exact (fun _ _ => rfl) | ((conv => whnf); first | refine ⟨?_, ?_⟩ | exact trivial | fail))); first | ((all_goals ((try dsimp only [laOf] at *); (all_goals (try simp (disch := omega) only [w64', wu64', tdiv_pos, tmod_pos, Int.toNat_natCast, Nat.zero_add] at *)); (all_goals (omega)))); done) | fail))
  any_goals (refine alt_fam (α := DS) ⟨_, _, _⟩ ?_ (by (repeat' (first | with_reducible exact rfl | exact Nat.le_refl _ | with_reducible exact (fun _ _ => rfl) | ((conv => whnf); first | refine ⟨?_, ?_⟩ | exact trivial | fail))); first | ((all_goals ((try dsimp only [laOf] at *); (all_goals (try simp (disch := omega) only [w64', wu64', tdiv_pos, tmod_pos, Int.toNat_natCast, Nat.zero_add] at *)); (all_goals (omega)))); done) | fail))
  all_goals (try dsimp only [laOf, cutR, cutL, id] at *)
  all_goals (try simp (disch := omega) only [w64', wu64', tdiv_pos, tmod_pos, Int.toNat_natCast, Nat.zero_add] at *)
  all_goals (try omega)
  · refine ⟨by omega, by omega, by simp [pv, B_zero], fun r hr => by omega, fun _ => .inl trivial, by omega, by omega, by omega⟩
  · rename_i h1 h2 c t h3 h4
    obtain ⟨i1, i2, i3, i4, i5, i6, i7, i8⟩ := h1
    have hlt : x.1 < 4 := small_len i4 h2 i3 (k := 4) (by have : B 4 = 18446744073709551616 := by decide
                                                          omega)
    refine ⟨by omega, by omega, ?_, ?_, ?_, by omega, by omega, by omega⟩
    · rw [pv_push, B_succ, Int.add_assoc, carry_step]; exact i3
    · exact dig_push i4 (by omega)
    · intro h0
      right
      rw [show x.1 + 1 - 1 = x.1 by omega, push_at]
      omega
  · rename_i h1 h2
    obtain ⟨i1, i2, i3, i4, i5, i6, i7, i8⟩ := h1
    have h0 : x.2.2.2 = 0 := by omega
    rw [h0] at i3
    exact DVal.full ⟨i6, i7, by show x.1 ≤ 1000; omega, i4, i5 h0, by show pv x.2.2.1 x.1 = n; omega⟩
noncomputable def ofRefS : ESpec Try.prog := newN fn30 (.s1 (.int .u64)) cxOf (fun n => some (0 ≤ n ∧ n < 18446744073709551616)) (fun n => newD 0 [] n) (fun _ v _ => [v.ix]) (fun _ => rfl) (fun x a ha => by rw [List.mem_singleton.1 ha]; exact fun _ => rfl) of_ref_runs

/-! ### sums -/
abbrev laAdd (a b : IS) : LA where
  ι := Nat × Nat × (Nat → Int) × Int
  inv := fun x => 0 ≤ x.2.2.2 ∧ x.2.2.2 ≤ 2 ∧ pv x.2.2.1 x.1 + x.2.2.2 * B x.1 = pv (ext a) x.1 + pv (ext b) x.1 ∧ Dig x.2.2.1 x.1 ∧ x.1 ≤ x.2.1 ∧ x.2.1 ≤ 9223372036854775807 ∧ (x.1 ≤ a.len ∨ x.1 ≤ b.len ∨ (x.2.2.2 = 0 ∧ (x.1 = a.len + 1 ∨ x.1 = b.len + 1)))
  T := fun x => ⟨54, [(0, D1 0 a), (1, D1 1 b), (5, .one (.a (.slc 2 1 0 x.1 x.2.1))), (6, int_ .i64 x.2.2.2), (7, int_ .i64 x.1)], [roI a, roI b, rwI x.2.1 x.2.2.1]⟩
  μ := fun x => a.len + b.len + 3 - x.1
  ren := fun S => [0, 1, S.ix 5]
noncomputable def cxAdd (a b : IS) : Cx Try.prog := { ps := [trimS], es := [], is := [], n0 := 2, loops := fun i => match i with | 4 => some (.inv (laAdd a b)) | _ => none, cuts := fun _ => none }
theorem add_step {a b : IS} {i : Nat} {g : Nat → Int} {c s : Int} {t : Tail} (i3 : pv g i + c * B i = pv (ext a) i + pv (ext b) i) (hs : s = c + ext a i + ext b i) :
    pv (fun r => if r < i then g r else if r < i + 1 then [s % 65536].getD (r - i) 0 else t.i 0 r) (i + 1) + s / 65536 * B (i + 1) = pv (ext a) (i + 1) + pv (ext b) (i + 1) := by
  rw [pv_push, B_succ, Int.add_assoc, carry_step, hs, Int.add_mul, Int.add_mul]
  simp only [pv]; omega
theorem trim_val {g : Nat → Int} {i cap : Nat} {n : Int} (hg : Dig g i) (h1 : i ≤ cap) (h2 : cap ≤ 9223372036854775807) (h3 : i ≤ 1000) (hv : pv g i = n) : DVal n ⟨tl g i, cap, g⟩ := by
  have h4 := tl_le g i
  exact ⟨Nat.le_trans h4 h1, h2, Nat.le_trans h4 h3, fun r hr => hg r (Nat.lt_of_lt_of_le hr h4), tl_top g i, (tl_pv g i).trans hv⟩
set_option maxHeartbeats 4000000 in
theorem add_ref_runs (a b : IS) (hp : obp (some (Wf a ∧ Wf b ∧ a.len ≤ 900 ∧ b.len ≤ 900))) : Runs (cxAdd a b) Try.f29 [D1 0 a, D1 1 b] [roI a, roI b] fun v m => anyAlt [roI a, roI b] [0, 1, v.ix] v m (newD 2 [roI a, roI b] (nv a + nv b)) := by
  obtain ⟨ha, hb, ha1, hb1⟩ := hp
  have a1 := ha.n
  have b1 := hb.n
  repeat' (first | with_reducible exact trivial | with_reducible exact rfl | with_reducible exact Nat.le_refl _ | with_reducible exact (fun _ _ => rfl) | ((conv => whnf); first | (refine fun (x : Nat × Nat × (Nat → Int) × Int) => ?_) | (refine fun _ => ?_) | refine ⟨?_, ?_⟩ | exact trivial | exact Nat.le_refl _ | exact lex_q (by kernel_rfl) | exact lex_t (by kernel_rfl) | exact lex_h (by kernel_rfl) | fail))
  any_goals (refine enter_mk (la := laAdd a b) ⟨_, _, _, _⟩ ?_ (by (repeat' (first | with_reducible exact rfl | exact Nat.le_refl _ | with_reducible exact (fun _ _ => rfl) | ((conv => whnf); first | refine ⟨?_, ?_⟩ | exact trivial | fail))); first | ((all_goals ((try dsimp only [laAdd] at *); (all_goals (try simp (disch := omega) only [w64', wu64', tdiv_pos, tmod_pos, Int.toNat_natCast, Nat.zero_add] at *)); (all_goals (omega)))); done) | fail))
  any_goals (refine alt_fam (α := DS) ⟨_, _, _⟩ ?_ (by (repeat' (first | with_reducible exact rfl | exact Nat.le_refl _ | with_reducible exact (fun _ _ => rfl) | ((conv => whnf); first | refine ⟨?_, ?_⟩ | exact trivial | fail))); first | ((all_goals ((try dsimp only [laAdd] at *); (all_goals (try simp (disch := omega) only [w64', wu64', tdiv_pos, tmod_pos, Int.toNat_natCast, Nat.zero_add] at *)); (all_goals (omega)))); done) | fail))
  all_goals (try dsimp only [laAdd, cutR, cutL, id] at *)
  all_goals (try simp (disch := omega) only [w64', wu64', tdiv_pos, tmod_pos, Int.toNat_natCast, Nat.zero_add] at *)
  all_goals (try omega)
  · exact ⟨by omega, by omega, by simp [pv], fun r hr => by omega, by omega, by omega, .inl (by omega)⟩
  all_goals
    have d1 := ha.dig x.1
    have d2 := hb.dig x.1
    have e1 := ext_in (s := a) (r := x.1)
    have e2 := ext_in (s := b) (r := x.1)
    have e3 := ext_out (s := a) (r := x.1)
    have e4 := ext_out (s := b) (r := x.1)
    obtain ⟨i1, i2, i3, i4, i5, i6, i7⟩ := ‹(laAdd a b).inv x›
    try simp (disch := omega) only [w64', wu64', tdiv_pos, tmod_pos, Int.toNat_natCast, Nat.zero_add]
    first
    | exact ⟨by omega, by omega, add_step i3 (by omega), dig_push i4 (by omega), by omega, by omega, by omega⟩
    | (refine (trim_val i4 i5 i6 (by omega) ?_).full
       have h0 : x.2.2.2 = 0 := by omega
       show pv x.2.2.1 x.1 = _
       rw [ext_pv (by omega), ext_pv (by omega), h0] at i3
       omega)
noncomputable def addRefS : ESpec Try.prog := newN fn29 (.s2 dS dS) (fun x => cxAdd x.1 x.2) (fun x => some (Wf x.1 ∧ Wf x.2 ∧ x.1.len ≤ 900 ∧ x.2.len ≤ 900)) (fun x => newD 2 [roI x.1, roI x.2] (nv x.1 + nv x.2)) (fun _ v _ => [0, 1, v.ix]) (fun _ => rfl) (fun x a ha => by rw [List.mem_singleton.1 ha]; exact fun _ => rfl) (fun x => add_ref_runs x.1 x.2)

/-! ### differences -/
theorem fn25 : FnOf Try.prog 25 Try.f25 := ⟨Try.func25, rfl, rfl, mixed⟩
abbrev laSub (a b : IS) : LA where
  ι := Nat × Nat × (Nat → Int) × Int
  inv := fun x => 0 ≤ x.2.2.2 ∧ x.2.2.2 ≤ 1 ∧ pv x.2.2.1 x.1 = pv (ext a) x.1 - pv (ext b) x.1 + x.2.2.2 * B x.1 ∧ Dig x.2.2.1 x.1 ∧ x.1 ≤ x.2.1 ∧ x.2.1 ≤ 9223372036854775807 ∧ x.1 ≤ a.len
  T := fun x => ⟨42, [(0, D1 0 a), (1, D1 1 b), (5, .one (.a (.slc 2 1 0 x.1 x.2.1))), (6, int_ .i64 x.2.2.2), (11, int_ .i64 a.len), (12, int_ .i64 x.1)], [roI a, roI b, rwI x.2.1 x.2.2.1]⟩
  μ := fun x => a.len + 1 - x.1
  ren := fun S => [0, 1, S.ix 5]
noncomputable def cxSub (a b : IS) : Cx Try.prog := { ps := [trimS], es := [], is := [], n0 := 2, loops := fun i => match i with | 4 => some (.inv (laSub a b)) | _ => none, cuts := fun _ => none }
theorem sub_step {a b : IS} {i : Nat} {g : Nat → Int} {c d c' : Int} {t : Tail} (i3 : pv g i = pv (ext a) i - pv (ext b) i + c * B i) (hs : d = ext a i - c - ext b i + c' * 65536) :
    pv (fun r => if r < i then g r else if r < i + 1 then [d].getD (r - i) 0 else t.i 0 r) (i + 1) = pv (ext a) (i + 1) - pv (ext b) (i + 1) + c' * B (i + 1) := by
  rw [pv_push, B_succ, hs]
  simp only [pv]
  rw [Int.add_mul, Int.sub_mul, Int.sub_mul, Int.mul_assoc]; omega
set_option maxHeartbeats 4000000 in
theorem sub_ref_runs (a b : IS) (hp : obp (some (Wf a ∧ Wf b ∧ nv b ≤ nv a))) : Runs (cxSub a b) Try.f25 [D1 0 a, D1 1 b] [roI a, roI b] fun v m => anyAlt [roI a, roI b] [0, 1, v.ix] v m (newD 2 [roI a, roI b] (nv a - nv b)) := by
  obtain ⟨ha, hb, hle⟩ := hp
  have a1 := ha.n
  have b1 := hb.n
  have a2 := ha.small
  have hlen : b.len ≤ a.len := by
    rcases Nat.lt_or_ge a.len b.len with h | h
    · have := ha.len_lt hb h; omega
    · exact h
  repeat' (first | with_reducible exact trivial | with_reducible exact rfl | with_reducible exact Nat.le_refl _ | with_reducible exact (fun _ _ => rfl) | ((conv => whnf); first | (refine fun (x : Nat × Nat × (Nat → Int) × Int) => ?_) | (refine fun _ => ?_) | refine ⟨?_, ?_⟩ | exact trivial | exact Nat.le_refl _ | exact lex_q (by kernel_rfl) | exact lex_t (by kernel_rfl) | exact lex_h (by kernel_rfl) | fail))
  any_goals (refine enter_mk (la := laSub a b) ⟨_, _, _, _⟩ ?_ (by (repeat' (first | with_reducible exact rfl | exact Nat.le_refl _ | with_reducible exact (fun _ _ => rfl) | ((conv => whnf); first | refine ⟨?_, ?_⟩ | exact trivial | fail))); first | ((all_goals ((try dsimp only [laSub] at *); (all_goals (try simp (disch := omega) only [w64', wu64', tdiv_pos, tmod_pos, Int.toNat_natCast, Nat.zero_add] at *)); (all_goals (omega)))); done) | fail))
  any_goals (refine alt_fam (α := DS) ⟨_, _, _⟩ ?_ (by (repeat' (first | with_reducible exact rfl | exact Nat.le_refl _ | with_reducible exact (fun _ _ => rfl) | ((conv => whnf); first | refine ⟨?_, ?_⟩ | exact trivial | fail))); first | ((all_goals ((try dsimp only [laSub] at *); (all_goals (try simp (disch := omega) only [w64', wu64', tdiv_pos, tmod_pos, Int.toNat_natCast, Nat.zero_add] at *)); (all_goals (omega)))); done) | fail))
  all_goals (try dsimp only [laSub, cutR, cutL, id] at *)
  all_goals (try simp (disch := omega) only [w64', wu64', tdiv_pos, tmod_pos, Int.toNat_natCast, Nat.zero_add] at *)
  all_goals (try omega)
  · exact ⟨by omega, by omega, by simp [pv], fun r hr => by omega, by omega, by omega, by omega⟩
  all_goals
    have d1 := ha.dig x.1
    have d2 := hb.dig x.1
    have e1 := ext_in (s := a) (r := x.1)
    have e2 := ext_in (s := b) (r := x.1)
    have e4 := ext_out (s := b) (r := x.1)
    obtain ⟨i1, i2, i3, i4, i5, i6, i7⟩ := ‹(laSub a b).inv x›
    try simp (disch := omega) only [w64', wu64', tdiv_pos, tmod_pos, Int.toNat_natCast, Nat.zero_add] at *
    first
    | exact ⟨by omega, by omega, sub_step (c' := 0) i3 (by omega), dig_push i4 (by omega), by omega, by omega, by omega⟩
    | exact ⟨by omega, by omega, sub_step (c' := 1) i3 (by omega), dig_push i4 (by omega), by omega, by omega, by omega⟩
    | (refine (trim_val i4 i5 i6 (by omega) ?_).full
       obtain h0 : x.1 = a.len := by omega
       show pv x.2.2.1 x.1 = _
       rw [h0, ext_pv (by omega), ext_pv (by omega)] at i3
       have h2 := (pv_bd i4).2
       have h3 := (pv_bd i4).1
       rw [h0] at h2 h3
       rw [h0]
       have h4 := B_pos a.len
       have h5 : x.2.2.2 = 0 ∨ x.2.2.2 = 1 := by omega
       rcases h5 with h5 | h5 <;> rw [h5] at i3 <;> omega)
noncomputable def subRefS : ESpec Try.prog := newN fn25 (.s2 dS dS) (fun x => cxSub x.1 x.2) (fun x => some (Wf x.1 ∧ Wf x.2 ∧ nv x.2 ≤ nv x.1)) (fun x => newD 2 [roI x.1, roI x.2] (nv x.1 - nv x.2)) (fun _ v _ => [0, 1, v.ix]) (fun _ => rfl) (fun x a ha => by rw [List.mem_singleton.1 ha]; exact fun _ => rfl) (fun x => sub_ref_runs x.1 x.2)

end Go.Proofs.Ytdphgjnflaahbaa
