/-
  Contracts of functions, and plain facts about them, that a claim of this seat uses.
-/
import Derived.Test.YtbbiennjigpheaaSx
import Derived.Test.YtbbiennjigpheaaLanT
import Derived.Test.YtbbiennjigpheaaProg
namespace Go.Proofs.Ytbbiennjigpheaa
open Go.Sx
set_option linter.unusedVariables false
set_option linter.unusedSimpArgs false
set_option maxRecDepth 100000

/-! lanes: one list of all that wait. -/
structure One where
  c : Int
  x : It
def rowL (l : Ln) (k : Nat) : List It := (List.range (l.n k)).map fun r => ⟨l.id k r, l.sz k r, l.dr k r⟩
def flt (k : Int) (L : List One) : List It := (L.filter fun o => decide (o.c = k)).map One.x
def oneT (c id sz : Nat → Int) (dr : Nat → Bool) (r : Nat) : One := ⟨c r, ⟨id r, sz r, dr r⟩⟩
def tabL (n : Nat) (c id sz : Nat → Int) (dr : Nat → Bool) : List One := (List.range n).map (oneT c id sz dr)
structure Mt (l : Ln) (L : List One) : Prop where
  row : ∀ k : Nat, k < 8 → rowL l k = flt k L
  cls : ∀ o, o ∈ L → 0 ≤ o.c ∧ o.c ≤ 7
  sz : ∀ o, o ∈ L → 0 ≤ o.x.sz ∧ o.x.sz ≤ 1600
theorem flt_nil (k : Int) : flt k [] = [] := rfl
theorem flt_cons (k : Int) (o : One) (L : List One) : flt k (o :: L) = if o.c = k then o.x :: flt k L else flt k L := by
  unfold flt
  rw [List.filter_cons]
  by_cases h : o.c = k
  · rw [if_pos (decide_eq_true h), if_pos h]; rfl
  · rw [if_neg (by simpa using h), if_neg h]
theorem flt_app (k : Int) (A B : List One) : flt k (A ++ B) = flt k A ++ flt k B := by
  unfold flt
  rw [List.filter_append, List.map_append]
theorem flt_out {k : Int} {L : List One} (h : ∀ o, o ∈ L → o.c ≠ k) : flt k L = [] := by
  induction L with
  | nil => rfl
  | cons o L ih =>
    rw [flt_cons, if_neg (h o List.mem_cons_self)]
    exact ih fun p hp => h p (List.mem_cons_of_mem _ hp)
theorem row_len (l : Ln) (k : Nat) : (rowL l k).length = l.n k := by unfold rowL; simp
theorem mt_n {l : Ln} {L : List One} (h : Mt l L) {k : Nat} (hk : k < 8) : l.n k = (flt k L).length := by rw [← h.row k hk, row_len]
theorem mt_new (a : A8) : Mt (new0 a) [] := ⟨fun k hk => rfl, fun o ho => absurd ho (List.not_mem_nil), fun o ho => absurd ho (List.not_mem_nil)⟩
theorem mt_clr (l : Ln) : Mt (clrL l) [] := ⟨fun k hk => rfl, fun o ho => absurd ho (List.not_mem_nil), fun o ho => absurd ho (List.not_mem_nil)⟩
theorem row_put {l : Ln} {c : Int} {x : It} (he : putE l c x = 0) (k : Nat) : rowL (putL l c x) k = if k = c.toNat then rowL l k ++ [x] else rowL l k := by
  unfold rowL
  rw [put_n he, put_id he, put_sz he, put_dr he]
  by_cases hk : k = c.toNat
  · rw [if_pos hk]
    subst hk
    rw [up_at, up_at, up_at, up_at, List.range_succ, List.map_append]
    congr 1
    · refine List.map_congr_left fun r hr => ?_
      rw [if_pos (List.mem_range.1 hr), if_pos (List.mem_range.1 hr), if_pos (List.mem_range.1 hr)]
    · show [It.mk _ _ _] = [x]
      rw [if_neg (Nat.lt_irrefl _), if_neg (Nat.lt_irrefl _), if_neg (Nat.lt_irrefl _)]
  · rw [if_neg hk, up_ne _ _ hk, up_ne _ _ hk, up_ne _ _ hk, up_ne _ _ hk]
theorem put_szin {l : Ln} {c : Int} {x : It} (h : putE l c x = 0) : 0 ≤ x.sz ∧ x.sz ≤ 1600 := by
  unfold putE at h
  split at h
  · cases h
  · omega
theorem mt_put {l : Ln} {L : List One} (h : Mt l L) {c : Int} {x : It} (he : putE l c x = 0) : Mt (putL l c x) (L ++ [⟨c, x⟩]) := by
  have hc := put_cls he
  refine ⟨fun k hk => ?_, fun o ho => ?_, fun o ho => ?_⟩
  · rw [row_put he, flt_app, flt_cons, flt_nil, h.row k hk]
    by_cases hkc : k = c.toNat
    · rw [if_pos hkc, if_pos (show c = k by omega)]
    · rw [if_neg hkc, if_neg (show ¬ c = k by omega), List.append_nil]
  · rcases List.mem_append.1 ho with h1 | h1
    · exact h.cls o h1
    · rw [List.mem_singleton.1 h1]; exact hc
  · rcases List.mem_append.1 ho with h1 | h1
    · exact h.sz o h1
    · rw [List.mem_singleton.1 h1]; exact put_szin he
theorem row_same {l l' : Ln} (h1 : l'.n = l.n) (h2 : l'.id = l.id) (h3 : l'.sz = l.sz) (h4 : l'.dr = l.dr) (k : Nat) : rowL l' k = rowL l k := by
  unfold rowL; rw [h1, h2, h3, h4]
theorem mt_put' {l : Ln} {L : List One} (h : Mt l L) {c : Int} {x : It} (he : putE l c x ≠ 0) : Mt (putL l c x) L :=
  ⟨fun k hk => by rw [row_same (put_n' he) (put_id' he) (put_sz' he) (put_dr' he)]; exact h.row k hk, h.cls, h.sz⟩
theorem row_pop {l : Ln} {k : Nat} (hn : 0 < l.n k) (j : Nat) : rowL (popL l (some k)) j = if j = k then (rowL l j).tail else rowL l j := by
  show (List.range (up l.n k (l.n k - 1) j)).map (fun r => (⟨up l.id k (fun r => l.id k (r + 1)) j r, up l.sz k (fun r => l.sz k (r + 1)) j r, up l.dr k (fun r => l.dr k (r + 1)) j r⟩ : It)) = _
  by_cases hj : j = k
  · subst hj
    rw [if_pos rfl, up_at, up_at, up_at, up_at]
    unfold rowL
    obtain ⟨m, hm⟩ : ∃ m, l.n j = m + 1 := ⟨l.n j - 1, by omega⟩
    rw [hm, List.range_succ_eq_map, List.map_cons, List.tail_cons, List.map_map]
    rfl
  · rw [if_neg hj, up_ne _ _ hj, up_ne _ _ hj, up_ne _ _ hj, up_ne _ _ hj]; rfl
theorem mt_pop {l : Ln} {A B : List One} {o : One} {k : Nat} (hk : k < 8) (h : Mt l (A ++ o :: B)) (ho : o.c = k) (hA : flt k A = []) : Mt (popL l (some k)) (A ++ B) := by
  have hn : 0 < l.n k := by
    rw [mt_n h hk, flt_app, hA, flt_cons, if_pos ho]; simp
  refine ⟨fun j hj => ?_, fun p hp => ?_, fun p hp => ?_⟩
  · rw [row_pop hn, h.row j hj, flt_app, flt_app, flt_cons]
    by_cases hjk : j = k
    · subst hjk
      rw [if_pos rfl, if_pos ho, hA]; rfl
    · rw [if_neg hjk, if_neg (show ¬ o.c = j by omega)]
  · refine h.cls p ?_
    rcases List.mem_append.1 hp with h1 | h1
    · exact List.mem_append.2 (.inl h1)
    · exact List.mem_append.2 (.inr (List.mem_cons_of_mem _ h1))
  · refine h.sz p ?_
    rcases List.mem_append.1 hp with h1 | h1
    · exact List.mem_append.2 (.inl h1)
    · exact List.mem_append.2 (.inr (List.mem_cons_of_mem _ h1))
theorem flt_sum : ∀ {L : List One}, (∀ o, o ∈ L → 0 ≤ o.c ∧ o.c ≤ 7) → (flt 0 L).length + (flt 1 L).length + (flt 2 L).length + (flt 3 L).length + (flt 4 L).length + (flt 5 L).length + (flt 6 L).length + (flt 7 L).length = L.length
  | [], _ => rfl
  | o :: L, h => by
    have ih := flt_sum fun p hp => h p (List.mem_cons_of_mem _ hp)
    have ho := h o List.mem_cons_self
    rw [flt_cons, flt_cons, flt_cons, flt_cons, flt_cons, flt_cons, flt_cons, flt_cons]
    rcases (by omega : o.c = 0 ∨ o.c = 1 ∨ o.c = 2 ∨ o.c = 3 ∨ o.c = 4 ∨ o.c = 5 ∨ o.c = 6 ∨ o.c = 7) with e | e | e | e | e | e | e | e <;> (rw [e]; simp; omega)
theorem mt_sum {l : Ln} {L : List One} (h : Mt l L) : sumN l 8 = L.length := by
  rw [sum_8, mt_n h (k := 0) (by decide), mt_n h (k := 1) (by decide), mt_n h (k := 2) (by decide), mt_n h (k := 3) (by decide), mt_n h (k := 4) (by decide), mt_n h (k := 5) (by decide), mt_n h (k := 6) (by decide), mt_n h (k := 7) (by decide)]
  have := flt_sum h.cls
  have e : ∀ n : Nat, ((n : Nat) : Int) = (n : Int) := fun _ => rfl
  show ((flt 0 L).length : Int) + (flt 1 L).length + (flt 2 L).length + (flt 3 L).length + (flt 4 L).length + (flt 5 L).length + (flt 6 L).length + (flt 7 L).length = L.length
  omega
/-! counting, and the first of a class -/
def cntI (c : Nat → Int) (C : Int) : Nat → Nat
  | 0 => 0
  | m + 1 => if c m = C then cntI c C m + 1 else cntI c C m
def fstI (c : Nat → Int) (C : Int) : Nat → Option Nat
  | 0 => none
  | m + 1 => match fstI c C m with
    | some j => some j
    | none => if c m = C then some m else none
def fz : Option Nat → Int
  | none => -1
  | some j => j
theorem cnt_s (c : Nat → Int) (C : Int) (m : Nat) : cntI c C (m + 1) = if c m = C then cntI c C m + 1 else cntI c C m := rfl
theorem cnt_le (c : Nat → Int) (C : Int) : ∀ m, cntI c C m ≤ m
  | 0 => Nat.le_refl 0
  | m + 1 => by have := cnt_le c C m; rw [cnt_s]; split <;> omega
theorem fst_some {c : Nat → Int} {C : Int} : ∀ {m j : Nat}, fstI c C m = some j → j < m ∧ c j = C ∧ ∀ i, i < j → c i ≠ C
  | m + 1, j, h => by
    unfold fstI at h
    split at h
    · rename_i j' h'
      cases h
      obtain ⟨h1, h2, h3⟩ := fst_some h'
      exact ⟨by omega, h2, h3⟩
    · rename_i h'
      split at h
      · rename_i hc
        cases h
        exact ⟨by omega, hc, fst_none h'⟩
      · cases h
where
  fst_none {c : Nat → Int} {C : Int} : ∀ {m : Nat}, fstI c C m = none → ∀ i, i < m → c i ≠ C
  | 0, _, i, hi => absurd hi (Nat.not_lt_zero i)
  | m + 1, h, i, hi => by
    unfold fstI at h
    split at h
    · cases h
    · rename_i h'
      split at h
      · cases h
      · rename_i hc
        rcases (by omega : i < m ∨ i = m) with h1 | rfl
        · exact fst_none h' i h1
        · exact hc
theorem fst_none {c : Nat → Int} {C : Int} {m : Nat} (h : fstI c C m = none) : ∀ i, i < m → c i ≠ C := fst_some.fst_none h
theorem fst_keep {c : Nat → Int} {C : Int} {m j : Nat} (h : fstI c C m = some j) : fstI c C (m + 1) = some j := by
  show (match fstI c C m with | some j => some j | none => if c m = C then some m else none) = some j
  rw [h]
theorem fst_next {c : Nat → Int} {C : Int} {m : Nat} (h : fstI c C m = none) : fstI c C (m + 1) = if c m = C then some m else none := by
  show (match fstI c C m with | some j => some j | none => if c m = C then some m else none) = _
  rw [h]
theorem fst_of {c : Nat → Int} {C : Int} {m j : Nat} (hj : j < m) (hc : c j = C) (h : ∀ i, i < j → c i ≠ C) : fstI c C m = some j := by
  cases ho : fstI c C m with
  | none => exact absurd hc (fst_none ho j hj)
  | some b =>
    obtain ⟨h1, h2, h3⟩ := fst_some ho
    rcases Nat.lt_trichotomy b j with h4 | h4 | h4
    · exact absurd h2 (h b h4)
    · rw [h4]
    · exact absurd hc (h3 j h4)
theorem tab_succ (n : Nat) (c id sz : Nat → Int) (dr : Nat → Bool) : tabL (n + 1) c id sz dr = tabL n c id sz dr ++ [oneT c id sz dr n] := by
  unfold tabL; rw [List.range_succ, List.map_append]; rfl
theorem tab_len (n : Nat) (c id sz : Nat → Int) (dr : Nat → Bool) : (tabL n c id sz dr).length = n := by unfold tabL; simp
theorem tab_mem {n : Nat} {c id sz : Nat → Int} {dr : Nat → Bool} {j : Nat} (hj : j < n) : oneT c id sz dr j ∈ tabL n c id sz dr := List.mem_map.2 ⟨j, List.mem_range.2 hj, rfl⟩
theorem flt_cnt (k : Int) : ∀ (n : Nat) (c id sz : Nat → Int) (dr : Nat → Bool), (flt k (tabL n c id sz dr)).length = cntI c k n
  | 0, _, _, _, _ => rfl
  | n + 1, c, id, sz, dr => by
    rw [tab_succ, flt_app, List.length_append, flt_cnt k n, flt_cons, flt_nil, cnt_s]
    show _ + (if c n = k then [_] else []).length = _
    split <;> rfl
theorem tab_part {n j : Nat} (hj : j < n) (c id sz : Nat → Int) (dr : Nat → Bool) : tabL n c id sz dr = tabL j c id sz dr ++ oneT c id sz dr j :: tabL (n - (j + 1)) (fun r => c (r + (j + 1))) (fun r => id (r + (j + 1))) (fun r => sz (r + (j + 1))) (fun r => dr (r + (j + 1))) := by
  unfold tabL
  rw [show n = j + (1 + (n - (j + 1))) by omega, List.range_add, List.map_append, List.map_map, show j + (1 + (n - (j + 1))) - (j + 1) = n - (j + 1) by omega, List.range_add, List.map_append, List.map_map]
  show _ ++ (oneT c id sz dr (j + 0) :: _) = _
  rw [Nat.add_zero]
  congr 2
  refine List.map_congr_left fun r hr => ?_
  show oneT c id sz dr (j + (1 + r)) = oneT c id sz dr (r + (j + 1))
  congr 1; omega
theorem tab_congr {n : Nat} {c id sz c' id' sz' : Nat → Int} {dr dr' : Nat → Bool} (h : ∀ r, r < n → c' r = c r ∧ id' r = id r ∧ sz' r = sz r ∧ dr' r = dr r) : tabL n c' id' sz' dr' = tabL n c id sz dr := by
  unfold tabL
  refine List.map_congr_left fun r hr => ?_
  obtain ⟨h1, h2, h3, h4⟩ := h r (List.mem_range.1 hr)
  unfold oneT
  rw [h1, h2, h3, h4]
/-- the first of a class is its row's first -/
theorem mt_first {l : Ln} {n : Nat} {c id sz : Nat → Int} {dr : Nat → Bool} (h : Mt l (tabL n c id sz dr)) {k b : Nat} (hk : k < 8) (hb : fstI c k n = some b) : 0 < l.n k ∧ l.id k 0 = id b ∧ l.sz k 0 = sz b ∧ l.dr k 0 = dr b := by
  obtain ⟨h1, h2, h3⟩ := fst_some hb
  have e := h.row k hk
  have hf : flt k (tabL b c id sz dr) = [] := flt_out fun o ho => by
    obtain ⟨i, hi, rfl⟩ := List.mem_map.1 ho
    exact h3 i (List.mem_range.1 hi)
  rw [tab_part h1, flt_app, hf, flt_cons, if_pos (show (oneT c id sz dr b).c = k from h2)] at e
  have hn : 0 < l.n k := by rw [← row_len, e]; simp
  refine ⟨hn, ?_⟩
  obtain ⟨m, hm⟩ : ∃ m, l.n k = m + 1 := ⟨l.n k - 1, by omega⟩
  unfold rowL at e
  rw [hm, List.range_succ_eq_map, List.map_cons] at e
  have e2 := (List.cons.inj e).1
  have e3 := congrArg It.id e2
  have e4 := congrArg It.sz e2
  have e5 := congrArg It.dr e2
  exact ⟨e3, e4, e5⟩
theorem mt_none {l : Ln} {n : Nat} {c id sz : Nat → Int} {dr : Nat → Bool} (h : Mt l (tabL n c id sz dr)) {k : Nat} (hk : k < 8) (hb : fstI c k n = none) : l.n k = 0 := by
  have h3 := fst_none hb
  rw [mt_n h hk, flt_out fun o ho => ?_]
  · rfl
  · obtain ⟨i, hi, rfl⟩ := List.mem_map.1 ho
    exact h3 i (List.mem_range.1 hi)
theorem mt_cnt {l : Ln} {n : Nat} {c id sz : Nat → Int} {dr : Nat → Bool} (h : Mt l (tabL n c id sz dr)) {k : Nat} (hk : k < 8) : l.n k = cntI c k n := by rw [mt_n h hk, flt_cnt]
theorem mt_cls {l : Ln} {n : Nat} {c id sz : Nat → Int} {dr : Nat → Bool} (h : Mt l (tabL n c id sz dr)) {j : Nat} (hj : j < n) : 0 ≤ c j ∧ c j ≤ 7 := h.cls _ (tab_mem hj)
theorem mt_sz {l : Ln} {n : Nat} {c id sz : Nat → Int} {dr : Nat → Bool} (h : Mt l (tabL n c id sz dr)) {j : Nat} (hj : j < n) : 0 ≤ sz j ∧ sz j ≤ 1600 := h.sz _ (tab_mem hj)
/-- one is put behind the others -/
theorem mt_app {l : Ln} {n : Nat} {c id sz c' id' sz' : Nat → Int} {dr dr' : Nat → Bool} (h : Mt l (tabL n c id sz dr)) {C : Int} {x : It} (he : putE l C x = 0) (h1 : ∀ r, r < n → c' r = c r ∧ id' r = id r ∧ sz' r = sz r ∧ dr' r = dr r) (h2 : c' n = C ∧ id' n = x.id ∧ sz' n = x.sz ∧ dr' n = x.dr) : Mt (putL l C x) (tabL (n + 1) c' id' sz' dr') := by
  have := mt_put h he
  rw [tab_succ, tab_congr h1, show oneT c' id' sz' dr' n = ⟨C, x⟩ by unfold oneT; rw [h2.1, h2.2.1, h2.2.2.1, h2.2.2.2]]
  exact this
/-- one is taken away -/
theorem mt_del {l : Ln} {n : Nat} {c id sz c' id' sz' : Nat → Int} {dr dr' : Nat → Bool} (h : Mt l (tabL n c id sz dr)) {k b : Nat} (hk : k < 8) (hb : fstI c k n = some b) (h1 : ∀ r, r < b → c' r = c r ∧ id' r = id r ∧ sz' r = sz r ∧ dr' r = dr r) (h2 : ∀ r, b ≤ r → r < n - 1 → c' r = c (r + 1) ∧ id' r = id (r + 1) ∧ sz' r = sz (r + 1) ∧ dr' r = dr (r + 1)) : Mt (popL l (some k)) (tabL (n - 1) c' id' sz' dr') := by
  obtain ⟨g1, g2, g3⟩ := fst_some hb
  have hf : flt k (tabL b c id sz dr) = [] := flt_out fun o ho => by
    obtain ⟨i, hi, rfl⟩ := List.mem_map.1 ho
    exact g3 i (List.mem_range.1 hi)
  rw [tab_part g1] at h
  have := mt_pop hk h g2 hf
  have e : tabL (n - 1) c' id' sz' dr' = tabL b c id sz dr ++ tabL (n - (b + 1)) (fun r => c (r + (b + 1))) (fun r => id (r + (b + 1))) (fun r => sz (r + (b + 1))) (fun r => dr (r + (b + 1))) := by
    rw [← tab_congr h1]
    unfold tabL
    rw [show n - 1 = b + (n - (b + 1)) by omega, List.range_add, List.map_append, List.map_map]
    congr 1
    refine List.map_congr_left fun r hr => ?_
    have hr := List.mem_range.1 hr
    obtain ⟨q1, q2, q3, q4⟩ := h2 (b + r) (by omega) (by omega)
    show oneT c' id' sz' dr' (b + r) = oneT (fun r => c (r + (b + 1))) (fun r => id (r + (b + 1))) (fun r => sz (r + (b + 1))) (fun r => dr (r + (b + 1))) r
    unfold oneT
    rw [q1, q2, q3, q4, show b + r + 1 = r + (b + 1) by omega]
  rw [e]; exact this
/-! the one that is picked -/
def bstI (c sz : Nat → Int) (a : A8) : Nat → Option Nat
  | 0 => none
  | m + 1 => if fstI c (c m) m = none ∧ 8 * sz m ≤ a.f (c m).toNat ∧ (∀ b, bstI c sz a m = some b → c b < c m) then some m else bstI c sz a m
theorem bst_yes {c sz : Nat → Int} {a : A8} {m : Nat} (h1 : fstI c (c m) m = none) (h2 : 8 * sz m ≤ a.f (c m).toNat) (h3 : ∀ b, bstI c sz a m = some b → c b < c m) : bstI c sz a (m + 1) = some m := if_pos ⟨h1, h2, h3⟩
theorem bst_no {c sz : Nat → Int} {a : A8} {m : Nat} (h : ¬ (fstI c (c m) m = none ∧ 8 * sz m ≤ a.f (c m).toNat ∧ (∀ b, bstI c sz a m = some b → c b < c m))) : bstI c sz a (m + 1) = bstI c sz a m := if_neg h
def Cand (c sz : Nat → Int) (a : A8) (j : Nat) : Prop := fstI c (c j) j = none ∧ 8 * sz j ≤ a.f (c j).toNat
theorem bst_some {c sz : Nat → Int} {a : A8} : ∀ {m b : Nat}, bstI c sz a m = some b → b < m ∧ Cand c sz a b ∧ ∀ j, j < m → Cand c sz a j → c j ≤ c b
  | m + 1, b, h => by
    unfold bstI at h
    split at h
    · rename_i h1
      cases h
      refine ⟨by omega, ⟨h1.1, h1.2.1⟩, fun j hj hc => ?_⟩
      rcases (by omega : j < m ∨ j = m) with h2 | rfl
      · cases ho : bstI c sz a m with
        | none => exact absurd hc (bst_none ho j h2)
        | some b' =>
          have h3 := h1.2.2 b' ho
          have h4 := (bst_some ho).2.2 j h2 hc
          omega
      · exact Int.le_refl _
    · rename_i h1
      obtain ⟨g1, g2, g3⟩ := bst_some h
      refine ⟨by omega, g2, fun j hj hc => ?_⟩
      rcases (by omega : j < m ∨ j = m) with h2 | rfl
      · exact g3 j h2 hc
      · rcases Int.lt_or_le (c b) (c j) with h5 | h5
        · exact absurd ⟨hc.1, hc.2, fun b' hb' => by rw [h] at hb'; cases hb'; exact h5⟩ h1
        · exact h5
where
  bst_none {c sz : Nat → Int} {a : A8} : ∀ {m : Nat}, bstI c sz a m = none → ∀ j, j < m → ¬ Cand c sz a j
  | 0, _, j, hj => absurd hj (Nat.not_lt_zero j)
  | m + 1, h, j, hj => by
    unfold bstI at h
    split at h
    · cases h
    · rename_i h1
      rcases (by omega : j < m ∨ j = m) with h2 | rfl
      · exact bst_none h j h2
      · exact fun hc => h1 ⟨hc.1, hc.2, fun b hb => by rw [h] at hb; cases hb⟩
theorem bst_none {c sz : Nat → Int} {a : A8} {m : Nat} (h : bstI c sz a m = none) : ∀ j, j < m → ¬ Cand c sz a j := bst_some.bst_none h
theorem mt_fits {l : Ln} {n : Nat} {c id sz : Nat → Int} {dr : Nat → Bool} (h : Mt l (tabL n c id sz dr)) (a : A8) {k : Nat} (hk : k < 8) (hf : fits l a k) : ∃ j, j < n ∧ c j = k ∧ Cand c sz a j ∧ fstI c k n = some j := by
  cases ho : fstI c k n with
  | none => exact absurd hf.1 (by rw [mt_none h hk ho]; exact Nat.lt_irrefl 0)
  | some j =>
    obtain ⟨h1, h2, h3⟩ := fst_some ho
    obtain ⟨_, _, h5, _⟩ := mt_first h hk ho
    refine ⟨j, h1, h2, ⟨?_, ?_⟩, rfl⟩
    · cases hc : fstI c (c j) j with
      | none => rfl
      | some i =>
        obtain ⟨g1, g2, _⟩ := fst_some hc
        exact absurd (g2.trans h2) (h3 i g1)
    · rw [h2, ← h5]; exact hf.2
theorem mt_best_none {l : Ln} {n : Nat} {c id sz : Nat → Int} {dr : Nat → Bool} (h : Mt l (tabL n c id sz dr)) {a : A8} (hb : bstI c sz a n = none) : pk l a = none := by
  cases ho : pk l a with
  | none => rfl
  | some k =>
    obtain ⟨hk, hf⟩ := pk_fits ho
    obtain ⟨j, h1, _, h2, _⟩ := mt_fits h a hk hf
    exact absurd h2 (bst_none hb j h1)
theorem mt_best {l : Ln} {n : Nat} {c id sz : Nat → Int} {dr : Nat → Bool} (h : Mt l (tabL n c id sz dr)) {a : A8} {b : Nat} (hb : bstI c sz a n = some b) : b < n ∧ (c b).toNat < 8 ∧ c b = ((c b).toNat : Nat) ∧ fstI c ((c b).toNat : Nat) n = some b ∧ pk l a = some (c b).toNat := by
  obtain ⟨h1, ⟨h2, h3⟩, h4⟩ := bst_some hb
  have hc := mt_cls h h1
  have hk : (c b).toNat < 8 := by omega
  have e : c b = ((c b).toNat : Nat) := by omega
  have hfst : fstI c ((c b).toNat : Nat) n = some b := by
    rw [← e]
    exact fst_of h1 rfl (fst_none h2)
  have hfit : fits l a (c b).toNat := by
    obtain ⟨g1, _, g2, _⟩ := mt_first h hk hfst
    exact ⟨g1, by rw [g2]; exact h3⟩
  refine ⟨h1, hk, e, hfst, ?_⟩
  cases ho : pk l a with
  | none => exact absurd hfit (pk_no ho _ hk)
  | some k =>
    obtain ⟨g1, g2⟩ := pk_fits ho
    obtain ⟨j, q1, q2, q3, _⟩ := mt_fits h a g1 g2
    have := h4 j q1 q3
    rcases Nat.lt_trichotomy k (c b).toNat with g3 | g3 | g3
    · exact absurd hfit (pk_top ho _ g3 hk)
    · rw [g3]
    · omega

end Go.Proofs.Ytbbiennjigpheaa
