/-
  Contracts of functions, and plain facts about them, that a claim of this seat uses.
-/
import Derived.Test.YtbbiennjigpheaaSx
import Derived.Test.YtbbiennjigpheaaLanW
import Derived.Test.YtbbiennjigpheaaProg
namespace Go.Proofs.Ytbbiennjigpheaa
open Go.Sx
set_option linter.unusedVariables false
set_option linter.unusedSimpArgs false
set_option maxRecDepth 100000

/-! lanes: what LanesRuns keeps, and how each step keeps it. -/
/-- the list of all that wait, as it lies in memory -/
structure AX where
  n : Nat
  cap : Nat
  N : Nat
  c : Nat → Int
  id : Nat → Int
  sz : Nat → Int
  dr : Nat → Bool
def aS (a : AX) : SV := .one (.a (.slc 4 4 0 a.n a.cap))
def aR (a : AX) : Option Reg := some ⟨true, .tab a.N [.int .i64 a.c, .int .i64 a.id, .int .i64 a.sz, .bool a.dr]⟩
structure LS where
  i : Nat
  l : Ln
  lost : Nat → Int
  a : AX
structure Inv (R : A8) (x : LS) (m : Nat) : Prop where
  ok : roomsOK R
  room : x.l.room = R.f
  mt : Mt x.l (tabL x.a.n x.a.c x.a.id x.a.sz x.a.dr)
  lost : ∀ k : Nat, k < 8 → x.l.lost k = x.lost k
  n : x.a.n ≤ m
  cap : x.a.n ≤ x.a.cap
  cN : x.a.cap ≤ x.a.N
  mx : x.a.cap ≤ 9223372036854775807
  le : ∀ k : Nat, k < 8 → (x.l.n k : Int) ≤ R.f k
def sumC (l : Ln) (m : Nat) : Int := sumN l (min (m - 1) 8)
theorem pkB_none : pkB none = false := rfl
theorem pkC_none : pkC none = 0 := rfl
theorem pkI_none (l : Ln) : pkI l none = ⟨0, 0, false⟩ := rfl
theorem pkB_some (k : Nat) : pkB (some k) = true := rfl
theorem pkC_some (k : Nat) : pkC (some k) = k := rfl
theorem pkI_some (l : Ln) (k : Nat) : pkI l (some k) = ⟨l.id k 0, l.sz k 0, l.dr k 0⟩ := rfl
theorem fz_none : fz none = -1 := rfl
theorem fz_some (b : Nat) : fz (some b) = b := rfl
theorem fz_neg {o : Option Nat} (h : fz o < 0) : o = none := by
  cases o with
  | none => rfl
  | some b => exact absurd h (by show ¬ (b : Int) < 0; omega)
theorem fz_pos {o : Option Nat} (h : ¬ fz o < 0) : ∃ b, o = some b ∧ fz o = b := by
  cases o with
  | none => exact absurd (by decide : (-1 : Int) < 0) h
  | some b => exact ⟨b, rfl, rfl⟩
theorem fz_lt {c sz : Nat → Int} {a : A8} (m : Nat) : fz (bstI c sz a m) < m := by
  cases h : bstI c sz a m with
  | none => show (-1 : Int) < m; omega
  | some b => have := (bst_some h).1; show (b : Int) < m; omega
theorem ff_lt {c : Nat → Int} {C : Int} (m : Nat) : fz (fstI c C m) < m := by
  cases h : fstI c C m with
  | none => show (-1 : Int) < m; omega
  | some b => have := (fst_some h).1; show (b : Int) < m; omega
theorem at_n (n : Nat) : 0 + ((n : Nat) : Int).toNat = n := by omega
/-- the loop that counts -/
theorem cnt_hit {c : Nat → Int} {C : Int} {m : Nat} (h : c (0 + ((m : Nat) : Int).toNat) = C) : cntI c C (m + 1) = cntI c C m + 1 := by rw [at_n] at h; rw [cnt_s, if_pos h]
theorem cnt_miss {c : Nat → Int} {C : Int} {m : Nat} (h : ¬ c (0 + ((m : Nat) : Int).toNat) = C) : cntI c C (m + 1) = cntI c C m := by rw [at_n] at h; rw [cnt_s, if_neg h]
theorem fst_hit {c : Nat → Int} {C : Int} {m : Nat} (h : c (0 + ((m : Nat) : Int).toNat) = C) (h2 : fz (fstI c C m) < 0) : fstI c C (m + 1) = some m := by
  rw [at_n] at h; rw [fst_next (fz_neg h2), if_pos h]
theorem fst_old {c : Nat → Int} {C : Int} {m : Nat} (h2 : ¬ fz (fstI c C m) < 0) : fstI c C (m + 1) = fstI c C m := by
  obtain ⟨b, h3, _⟩ := fz_pos h2
  rw [fst_keep h3, h3]
theorem fst_miss {c : Nat → Int} {C : Int} {m : Nat} (h : ¬ c (0 + ((m : Nat) : Int).toNat) = C) : fstI c C (m + 1) = fstI c C m := by
  rw [at_n] at h
  cases h3 : fstI c C m with
  | none => rw [fst_next h3, if_neg h]
  | some b => exact fst_keep h3
/-- the loop that looks for the best -/
theorem seen_up {c : Nat → Int} {m : Nat} {q q' : Nat → Bool} (hq : ∀ k : Nat, k < 8 → q k = (fstI c k m).isSome) (hc : 0 ≤ c m ∧ c m ≤ 7) (h : q' = fun r => if r = (c (0 + ((m : Nat) : Int).toNat)).toNat then true else q r) : ∀ k : Nat, k < 8 → q' k = (fstI c k (m + 1)).isSome := by
  intro k hk
  rw [h, at_n]
  show (if k = (c m).toNat then true else q k) = _
  by_cases hkc : k = (c m).toNat
  · rw [if_pos hkc]
    cases h3 : fstI c k m with
    | none => rw [fst_next h3, if_pos (by omega)]; rfl
    | some b => rw [fst_keep h3]; rfl
  · rw [if_neg hkc, hq k hk]
    cases h3 : fstI c k m with
    | none => rw [fst_next h3, if_neg (by omega)]
    | some b => rw [fst_keep h3]
theorem bst_seen {c sz : Nat → Int} {a : A8} {m : Nat} {q : Nat → Bool} (hq : ∀ k : Nat, k < 8 → q k = (fstI c k m).isSome) (hc : 0 ≤ c m ∧ c m ≤ 7) (h : q (c (0 + ((m : Nat) : Int).toNat)).toNat = true) : bstI c sz a (m + 1) = bstI c sz a m := by
  rw [at_n, hq _ (by omega), show (((c m).toNat : Nat) : Int) = c m by omega] at h
  refine bst_no fun h2 => ?_
  rw [h2.1] at h; cases h
theorem bst_small {c sz : Nat → Int} {a : A8} {m : Nat} (h : ¬ 8 * sz m ≤ a.f (c m).toNat) : bstI c sz a (m + 1) = bstI c sz a m := bst_no fun h2 => h h2.2.1
theorem not_seen {c : Nat → Int} {m : Nat} {q : Nat → Bool} (hq : ∀ k : Nat, k < 8 → q k = (fstI c k m).isSome) (hc : 0 ≤ c m ∧ c m ≤ 7) (h : q (c (0 + ((m : Nat) : Int).toNat)).toNat = false) : fstI c (c m) m = none := by
  rw [at_n, hq _ (by omega), show (((c m).toNat : Nat) : Int) = c m by omega] at h
  cases h3 : fstI c (c m) m with
  | none => rfl
  | some b => rw [h3] at h; cases h
theorem bst_first {c sz : Nat → Int} {a : A8} {m : Nat} (h1 : fstI c (c m) m = none) (h2 : 8 * sz m ≤ a.f (c m).toNat) (h3 : fz (bstI c sz a m) < 0) : bstI c sz a (m + 1) = some m := bst_yes h1 h2 fun b hb => by rw [fz_neg h3] at hb; cases hb
theorem bst_up {c sz : Nat → Int} {a : A8} {m : Nat} (h1 : fstI c (c m) m = none) (h2 : 8 * sz m ≤ a.f (c m).toNat) (h4 : c (0 + (fz (bstI c sz a m)).toNat) < c (0 + ((m : Nat) : Int).toNat)) : bstI c sz a (m + 1) = some m := bst_yes h1 h2 fun b hb => by
  rw [hb, at_n, fz_some, Int.toNat_natCast, Nat.zero_add] at h4; exact h4
theorem bst_low {c sz : Nat → Int} {a : A8} {m : Nat} (h3 : ¬ fz (bstI c sz a m) < 0) (h4 : ¬ c (0 + (fz (bstI c sz a m)).toNat) < c (0 + ((m : Nat) : Int).toNat)) : bstI c sz a (m + 1) = bstI c sz a m := by
  obtain ⟨b, h5, _⟩ := fz_pos h3
  refine bst_no fun h2 => h4 ?_
  rw [h5, at_n, fz_some, Int.toNat_natCast, Nat.zero_add]; exact h2.2.2 b h5
theorem mul8 {n : Int} (h : 0 ≤ n ∧ n ≤ 1600) : IntKind.i64.wrap (8 * n) = 8 * n := w64' (by omega) (by omega)
theorem f_at {a : A8} {n : Int} {j : Nat} (h : n = (j : Int)) : a.f n.toNat = a.f j := by rw [h, Int.toNat_natCast]
/-- Head -/
theorem mt_head {l : Ln} {n : Nat} {c id sz : Nat → Int} {dr : Nat → Bool} (h : Mt l (tabL n c id sz dr)) (C : Int) : (fstI c C n = none ∧ hdO l C = none) ∨ ∃ b, b < n ∧ fstI c C n = some b ∧ hdO l C = some C.toNat ∧ pkI l (some C.toNat) = ⟨id b, sz b, dr b⟩ := by
  cases hf : fstI c C n with
  | none =>
    refine .inl ⟨rfl, ?_⟩
    by_cases hx : C < 0 ∨ 7 < C
    · exact if_pos (by omega)
    · have hk : C.toNat < 8 := by omega
      refine if_pos (.inr (.inr (mt_none h hk ?_)))
      rw [show ((C.toNat : Nat) : Int) = C by omega]; exact hf
  | some b =>
    obtain ⟨h1, h2, h3⟩ := fst_some hf
    have hc := mt_cls h h1
    rw [h2] at hc
    have hk : C.toNat < 8 := by omega
    obtain ⟨g1, g2, g3, g4⟩ := mt_first h hk (b := b) (by rw [show ((C.toNat : Nat) : Int) = C by omega]; exact hf)
    refine .inr ⟨b, h1, rfl, if_neg (by omega), ?_⟩
    rw [pkI_some, g2, g3, g4]
/-- the sum -/
theorem sumC_0 (l : Ln) : sumC l 0 = 0 := by unfold sumC; exact sum_0 l
theorem sumC_s {l : Ln} {m : Nat} (hm : m < 10) : sumC l (m + 1) = sumC l m + lenV l ((m : Int) - 1) := by
  unfold sumC
  rcases (by omega : m = 0 ∨ m = 9 ∨ (1 ≤ m ∧ m ≤ 8)) with rfl | rfl | h
  · show sumN l 0 = sumN l 0 + lenV l (-1)
    rw [show lenV l (-1) = 0 from if_pos (by decide)]; omega
  · show sumN l 8 = sumN l 8 + lenV l 8
    rw [show lenV l 8 = 0 from if_pos (by decide)]; omega
  · obtain ⟨k, rfl⟩ : ∃ k, m = k + 1 := ⟨m - 1, by omega⟩
    rw [show min (k + 1 + 1 - 1) 8 = k + 1 by omega, show min (k + 1 - 1) 8 = k by omega, show (((k + 1 : Nat) : Int) - 1) = (k : Int) by omega]
    exact sum_len l (by omega)
theorem sumC_10 (l : Ln) : sumC l 10 = sumN l 8 := rfl
theorem sumC_in {R : A8} {x : LS} {n m : Nat} (h : Inv R x n) (hm : m ≤ 10) : 0 ≤ sumC x.l m ∧ sumC x.l m ≤ n := by
  have h1 := mt_sum h.mt
  rw [tab_len] at h1
  have h2 := sum_mono x.l (min (m - 1) 8) (by omega)
  have h3 := h.n
  unfold sumC
  omega
theorem inv_new {R : A8} (h : roomsOK R) (f : Nat → Int) (hf : ∀ k, k < 8 → f k = 0) (a : AX) (hn : a.n = 0) (h1 : a.n ≤ a.cap) (h2 : a.cap ≤ a.N) (h3 : a.cap ≤ 9223372036854775807) : Inv R ⟨0, new0 R, f, a⟩ 0 :=
  ⟨h, rfl, by show Mt (new0 R) (tabL a.n a.c a.id a.sz a.dr); rw [hn]; exact mt_new R, fun k hk => (hf k hk).symm, by show a.n ≤ 0; omega, h1, h2, h3, fun k hk => (h k hk).1⟩
theorem Inv.sum {R : A8} {x : LS} {n : Nat} (h : Inv R x n) : sumN x.l 8 = x.a.n := by rw [mt_sum h.mt, tab_len]
theorem Inv.step {R : A8} {x : LS} {n : Nat} (h : Inv R x n) (m i : Nat) (hm : n ≤ m) : Inv R ⟨i, x.l, x.lost, x.a⟩ m :=
  ⟨h.ok, h.room, h.mt, h.lost, Nat.le_trans h.n hm, h.cap, h.cN, h.mx, h.le⟩
/-- Put that is refused -/
theorem Inv.no {R : A8} {x : LS} {n : Nat} (h : Inv R x n) {C : Int} {y : It} (h0 : putE x.l C y ≠ 0) (h1 : putE x.l C y ≠ 30) : Inv R ⟨x.i, putL x.l C y, x.lost, x.a⟩ (n + 1) :=
  ⟨h.ok, h.room, mt_put' h.mt h0, fun k hk => by show (putL x.l C y).lost k = _; rw [put_lost' h1]; exact h.lost k hk, Nat.le_trans h.n (Nat.le_succ n), h.cap, h.cN, h.mx, fun k hk => by show ((putL x.l C y).n k : Int) ≤ _; rw [put_n' h0]; exact h.le k hk⟩
theorem Inv.fill {R : A8} {x : LS} {n : Nat} (h : Inv R x n) {C : Int} {y : It} (h1 : putE x.l C y = 30) {f : Nat → Int} (hf : ∀ k, f k = if k = C.toNat then IntKind.i64.wrap (x.lost C.toNat + 1) else x.lost k) (hC : 0 ≤ C ∧ C ≤ 7) : Inv R ⟨x.i, putL x.l C y, f, x.a⟩ (n + 1) := by
  have h0 : putE x.l C y ≠ 0 := by rw [h1]; decide
  refine ⟨h.ok, h.room, mt_put' h.mt h0, fun k hk => ?_, Nat.le_trans h.n (Nat.le_succ n), h.cap, h.cN, h.mx, fun k hk => by show ((putL x.l C y).n k : Int) ≤ _; rw [put_n' h0]; exact h.le k hk⟩
  show (putL x.l C y).lost k = f k
  rw [put_lost h1, hf]
  unfold up
  split
  · rw [h.lost _ (by omega)]
  · exact h.lost k hk
theorem put_le {l : Ln} {C : Int} {x : It} (he : putE l C x = 0) : (l.n C.toNat : Int) < l.room C.toNat := by
  unfold putE at he
  split at he
  · cases he
  · split at he
    · cases he
    · split at he
      · cases he
      · rename_i hf
        unfold full at hf
        omega
theorem Inv.put {R : A8} {x : LS} {n : Nat} (h : Inv R x n) {C : Int} {y : It} (he : putE x.l C y = 0) (a : AX) (hn : a.n = x.a.n + 1) (h1 : a.n ≤ a.cap) (h2 : a.cap ≤ a.N) (h3 : a.cap ≤ 9223372036854775807) (h4 : ∀ r, r < x.a.n → a.c r = x.a.c r ∧ a.id r = x.a.id r ∧ a.sz r = x.a.sz r ∧ a.dr r = x.a.dr r) (h5 : a.c x.a.n = C ∧ a.id x.a.n = y.id ∧ a.sz x.a.n = y.sz ∧ a.dr x.a.n = y.dr) : Inv R ⟨x.i, putL x.l C y, x.lost, a⟩ (n + 1) := by
  have hC := put_cls he
  refine ⟨h.ok, h.room, ?_, fun k hk => ?_, ?_, h1, h2, h3, fun k hk => ?_⟩
  · show Mt (putL x.l C y) (tabL a.n a.c a.id a.sz a.dr)
    rw [hn]; exact mt_app h.mt he h4 h5
  · show (putL x.l C y).lost k = _
    rw [put_lost' (by rw [he]; decide)]; exact h.lost k hk
  · show a.n ≤ n + 1
    have := h.n; omega
  · show ((putL x.l C y).n k : Int) ≤ R.f k
    rw [put_n he]
    unfold up
    split
    · rename_i hkc
      have h6 := put_le he
      rw [h.room, ← hkc] at h6
      have h7 := h.le k hk
      rw [← hkc]; omega
    · exact h.le k hk
theorem Inv.del {R : A8} {x : LS} {n : Nat} (h : Inv R x n) {A : A8} {b : Nat} (hb : bstI x.a.c x.a.sz A x.a.n = some b) (a : AX) (hn : a.n = x.a.n - 1) (h1 : a.n ≤ a.cap) (h2 : a.cap ≤ a.N) (h3 : a.cap ≤ 9223372036854775807) (h4 : ∀ r, r < b → a.c r = x.a.c r ∧ a.id r = x.a.id r ∧ a.sz r = x.a.sz r ∧ a.dr r = x.a.dr r) (h5 : ∀ r, b ≤ r → r < x.a.n - 1 → a.c r = x.a.c (r + 1) ∧ a.id r = x.a.id (r + 1) ∧ a.sz r = x.a.sz (r + 1) ∧ a.dr r = x.a.dr (r + 1)) : Inv R ⟨x.i, popL x.l (pk x.l A), x.lost, a⟩ (n + 1) := by
  obtain ⟨g1, g2, g3, g4, g5⟩ := mt_best h.mt hb
  rw [g5]
  refine ⟨h.ok, h.room, ?_, h.lost, ?_, h1, h2, h3, fun k hk => ?_⟩
  · show Mt _ (tabL a.n a.c a.id a.sz a.dr)
    rw [hn]; exact mt_del h.mt g2 g4 h4 h5
  · show a.n ≤ n + 1
    have := h.n; omega
  · show ((up x.l.n (x.a.c b).toNat (x.l.n (x.a.c b).toNat - 1) k : Nat) : Int) ≤ R.f k
    unfold up
    have h7 := h.le k hk
    split
    · rename_i e; rw [← e]; omega
    · exact h7
theorem Inv.stay {R : A8} {x : LS} {n : Nat} (h : Inv R x n) {A : A8} (hb : bstI x.a.c x.a.sz A x.a.n = none) : Inv R ⟨x.i, popL x.l (pk x.l A), x.lost, x.a⟩ (n + 1) := by
  rw [mt_best_none h.mt hb]
  exact h.step _ _ (Nat.le_succ n)
theorem Inv.clr {R : A8} {x : LS} {n : Nat} (h : Inv R x n) (a : AX) (hn : a.n = 0) (h1 : a.n ≤ a.cap) (h2 : a.cap ≤ a.N) (h3 : a.cap ≤ 9223372036854775807) : Inv R ⟨x.i, clrL x.l, x.lost, a⟩ (n + 1) :=
  ⟨h.ok, h.room, by show Mt (clrL x.l) (tabL a.n a.c a.id a.sz a.dr); rw [hn]; exact mt_clr x.l, h.lost, by show a.n ≤ n + 1; omega, h1, h2, h3, fun k hk => (h.ok k hk).1⟩
theorem cnt_z (c : Nat → Int) (C : Int) : ((cntI c C 0 : Nat) : Int) = 0 := rfl
theorem fst_z (c : Nat → Int) (C : Int) : fz (fstI c C 0) = -1 := rfl
theorem bst_z (c sz : Nat → Int) (a : A8) : fz (bstI c sz a 0) = -1 := rfl
theorem Inv.cnt {R : A8} {x : LS} {n : Nat} (h : Inv R x n) {C : Int} (hC : 0 ≤ C ∧ C ≤ 7) {m : Nat} (hm : m = x.a.n) : x.l.n C.toNat = cntI x.a.c C m := by
  rw [mt_cnt h.mt (show C.toNat < 8 by omega), hm, show ((C.toNat : Nat) : Int) = C by omega]
theorem Inv.full_iff {R : A8} {x : LS} {n : Nat} (h : Inv R x n) (hn : n ≤ 100) {C : Int} (hC : 0 ≤ C ∧ C ≤ 7) {m : Nat} (hm : m = x.a.n) (d : Bool) : full x.l C.toNat d ↔ (R.f C.toNat ≤ ((cntI x.a.c C m : Nat) : Int) ∨ (d = true ∧ R.f C.toNat ≤ IntKind.i64.wrap (2 * ((cntI x.a.c C m : Nat) : Int)))) := by
  have h1 := cnt_le x.a.c C m
  have h2 := h.n
  unfold full
  rw [h.cnt hC hm, h.room, w64' (by omega) (by omega)]
theorem it_eq {a b : It} (h : a = b) : (!(decide (a.id = b.id) && (decide (a.sz = b.sz) && (a.dr == b.dr && true)))) = false := by subst h; simp
theorem bo_eq {a b : Bool} (h : a = b) : (!(a == b)) = false := by subst h; simp
theorem seen_0 : ∀ (f : Nat → Bool), (∀ k, k < 8 → f k = false) → ∀ (c : Nat → Int) (k : Nat), k < 8 → f k = (fstI c k 0).isSome := fun f hf c k hk => by rw [hf k hk]; rfl
theorem eq31 : EqOK Try.prog 31 := by unfold EqOK; kernel_rfl
theorem fz_ge {o : Option Nat} : 0 ≤ fz o ↔ o.isSome = true := by
  cases o with
  | none => exact ⟨fun h => absurd h (by decide), fun h => by cases h⟩
  | some b => exact ⟨fun _ => rfl, fun _ => by show (0 : Int) ≤ b; omega⟩

end Go.Proofs.Ytbbiennjigpheaa
