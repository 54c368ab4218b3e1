/-
  Contracts of functions, and plain facts about them, that a claim of this seat uses.
-/
import Derived.Test.YtnkmfkongmijfaaSx
import Derived.Test.YtnkmfkongmijfaaFdbT
import Derived.Test.YtnkmfkongmijfaaFdbR
import Derived.Test.YtnkmfkongmijfaaFdbO
import Derived.Test.YtnkmfkongmijfaaFdbU
import Derived.Test.YtnkmfkongmijfaaProg
namespace Go.Proofs.Ytnkmfkongmijfaa
open Go.Sx
set_option linter.unusedVariables false
set_option linter.unusedSimpArgs false
set_option maxRecDepth 100000

/-! fdb: how the reference's table stands to the program's. -/
theorem hv_ok {s : Int} (h : 0 ≤ s ∧ s < 256) : ∀ k, hv s k = s / 2 ^ k ∧ (0 ≤ hv s k ∧ hv s k < 256)
  | 0 => ⟨by show s = s / 1; omega, h⟩
  | k + 1 => by
    obtain ⟨e, h1, h2⟩ := hv_ok h k
    have e1 : hv s (k + 1) = hv s k / 2 := by
      show IntKind.i64.wrap (Int.tdiv (hv s k) 2) = _
      rw [Int.tdiv_eq_ediv_of_nonneg h1]
      exact w64' (by omega) (by omega)
    refine ⟨?_, by omega, by omega⟩
    rw [e1, e, Int.pow_succ, Int.ediv_ediv_of_nonneg (by exact Int.le_of_lt (Int.pow_pos (by decide)))]
def kvs (L : List MRow) : List KV := L.map fun r => (r.k, r.v)
theorem fst_mem {k v : List Int} : ∀ {l : List KV}, fst_ k l = some v → (k, v) ∈ l
  | r :: l, h => by
    unfold fst_ at h
    split at h
    · rename_i h1
      cases h
      rw [← h1]
      exact List.mem_cons_self
    · exact List.mem_cons_of_mem _ (fst_mem h)
theorem fst_non {k : List Int} : ∀ {l : List KV}, fst_ k l = none → ∀ r, r ∈ l → r.1 ≠ k
  | [], _, r, hr => absurd hr (List.not_mem_nil)
  | q :: l, h, r, hr => by
    unfold fst_ at h
    split at h
    · cases h
    · rename_i h1
      rcases List.mem_cons.1 hr with rfl | h2
      · exact h1
      · exact fst_non h r h2
theorem fd_fst (k : List Int) : ∀ (l : List KV) (i : Nat), (fd_ k l i < 0 ∧ fst_ k l = none) ∨ ∃ d : Nat, ∃ r : KV, fd_ k l i = ((i + d : Nat) : Int) ∧ l[d]? = some r ∧ r.1 = k ∧ fst_ k l = some r.2
  | [], _ => .inl ⟨(by decide : (-1 : Int) < 0), rfl⟩
  | r :: l, i => by
    unfold fd_ fst_
    split
    · rename_i h
      exact .inr ⟨0, r, by simp, rfl, h, rfl⟩
    · rcases fd_fst k l (i + 1) with h | ⟨d, q, h1, h2, h3, h4⟩
      · exact .inl h
      · exact .inr ⟨d + 1, q, by rw [h1]; congr 1; omega, h2, h3, h4⟩
theorem rows_get {α : Type} {f : Nat → α} : ∀ {n i d : Nat} {r : α}, (rows f n i)[d]? = some r → d < n ∧ r = f (i + d)
  | 0, _, d, r, h => by cases d <;> cases h
  | n + 1, i, 0, r, h => by
    cases h
    exact ⟨Nat.succ_pos _, rfl⟩
  | n + 1, i, d + 1, r, h => by
    obtain ⟨h1, h2⟩ := rows_get (n := n) (i := i + 1) (d := d) h
    exact ⟨by omega, by rw [h2]; congr 1; omega⟩
theorem ac_find {x : RT} {v : Int} {m : Mc} : (fdV (x, v, m) < 0 ∧ fst_ (mcK v m) (acL x.a) = none) ∨ (0 ≤ fdV (x, v, m) ∧ fst_ (mcK v m) (acL x.a) = some (acR x.a (fdV (x, v, m)).toNat).2) := by
  rcases fd_fst (mcK v m) (acL x.a) 0 with h | ⟨d, r, h1, h2, h3, h4⟩
  · exact .inl h
  · obtain ⟨h5, h6⟩ := rows_get (f := acR x.a) h2
    have h7 : fdV (x, v, m) = ((0 + d : Nat) : Int) := h1
    refine .inr ⟨by omega, ?_⟩
    rw [h4, h6, h7, Int.toNat_natCast]
theorem put_none {k v : List Int} : ∀ {L : List MRow}, (∀ r, r ∈ L → r.k ≠ k) → (L.map fun r => if r.k = k then { r with v := v } else r) = L ∧ (kvs L).filter (neB k) = kvs L
  | [], _ => ⟨rfl, rfl⟩
  | r :: L, h => by
    obtain ⟨h1, h2⟩ := put_none (v := v) (L := L) (fun q hq => h q (List.mem_cons_of_mem _ hq))
    have h3 := h r List.mem_cons_self
    refine ⟨?_, ?_⟩
    · rw [List.map_cons, h1, if_neg h3]
    · show ((r.k, r.v) :: kvs L).filter (neB k) = (r.k, r.v) :: kvs L
      rw [fil_yes (ne_t h3), h2]
theorem put_has {k v : List Int} : ∀ {L : List MRow}, L.Pairwise (fun r s => r.k ≠ s.k ∧ r.b ≠ s.b) → (∃ r, r ∈ L ∧ r.k = k) → (kvs (L.map fun r => if r.k = k then { r with v := v } else r)).Perm ((kvs L).filter (neB k) ++ [(k, v)])
  | [], _, ⟨_, hr, _⟩ => absurd hr (List.not_mem_nil)
  | r :: L, hp, hx => by
    obtain ⟨h1, h2⟩ := List.pairwise_cons.1 hp
    by_cases h : r.k = k
    · obtain ⟨e1, e2⟩ := put_none (k := k) (v := v) (L := L) (fun q hq h9 => (h1 q hq).1 (h.trans h9.symm))
      rw [List.map_cons, e1, if_pos h]
      show ((r.k, v) :: kvs L).Perm (((r.k, r.v) :: kvs L).filter (neB k) ++ [(k, v)])
      rw [fil_no (ne_f h), e2, h]
      exact (List.perm_append_singleton _ _).symm
    · have hx2 : ∃ q, q ∈ L ∧ q.k = k := by
        obtain ⟨q, hq, hk⟩ := hx
        rcases List.mem_cons.1 hq with rfl | h9
        · exact absurd hk h
        · exact ⟨q, h9, hk⟩
      rw [List.map_cons, if_neg h]
      show ((r.k, r.v) :: kvs (L.map fun r => if r.k = k then { r with v := v } else r)).Perm (((r.k, r.v) :: kvs L).filter (neB k) ++ [(k, v)])
      rw [fil_yes (ne_t h)]
      exact (put_has h2 hx2).cons _
theorem put_perm {k v : List Int} {c : Nat} {L : List MRow} (hp : L.Pairwise (fun r s => r.k ≠ s.k ∧ r.b ≠ s.b)) : (kvs (mpPut L k v c)).Perm ((kvs L).filter (neB k) ++ [(k, v)]) := by
  unfold mpPut
  cases h : mpHas L k with
  | true =>
    refine put_has hp ?_
    obtain ⟨r, hr, hk⟩ := List.any_eq_true.1 h
    exact ⟨r, hr, of_decide_eq_true hk⟩
  | false =>
    obtain ⟨e1, e2⟩ := put_none (k := k) (v := v) (L := L) (fun r hr hk => by
      have : mpHas L k = true := List.any_eq_true.2 ⟨r, hr, decide_eq_true hk⟩
      rw [h] at this; cases this)
    show (kvs (L ++ [⟨k, v, c⟩])).Perm _
    rw [e2]
    unfold kvs
    rw [List.map_append]
    exact List.Perm.refl _
theorem get_kv {k v : List Int} : ∀ {L : List MRow}, L.Pairwise (fun r s => r.k ≠ s.k ∧ r.b ≠ s.b) → (k, v) ∈ kvs L → mpGet L k = some v
  | [], _, h => absurd h (List.not_mem_nil)
  | r :: L, hp, h => by
    obtain ⟨h1, h2⟩ := List.pairwise_cons.1 hp
    have e : mpGet (r :: L) k = if r.k = k then some r.v else mpGet L k := by
      unfold mpGet
      by_cases h9 : r.k = k
      · rw [List.find?_cons_of_pos (by exact decide_eq_true h9), if_pos h9]; rfl
      · rw [List.find?_cons_of_neg (by rw [decide_eq_false h9]; decide), if_neg h9]
    rw [e]
    rcases List.mem_cons.1 h with h3 | h3
    · injection h3 with h4 h5
      rw [if_pos h4.symm, h5]
    · obtain ⟨q, hq, he⟩ := List.mem_map.1 h3
      injection he with h4 h5
      rw [if_neg (fun h9 => (h1 q hq).1 (h9.trans h4.symm))]
      exact get_kv h2 h3
/-- in lists that hold the same, the first of a key is the map's -/
theorem fst_get {l : List KV} {L : List MRow} (hl : l.Perm (kvs L)) (hp : L.Pairwise (fun r s => r.k ≠ s.k ∧ r.b ≠ s.b)) (k : List Int) : fst_ k l = mpGet L k := by
  cases h : fst_ k l with
  | some v => exact (get_kv hp (hl.mem_iff.1 (fst_mem h))).symm
  | none =>
    cases h2 : mpGet L k with
    | none => rfl
    | some v =>
      obtain ⟨r, hr, hk, hv⟩ := get_mem h2
      exact absurd hk (fst_non h (r.k, r.v) (hl.mem_iff.2 (List.mem_map.2 ⟨r, hr, rfl⟩)))
theorem kv_fil {p : MRow → Bool} {q : KV → Bool} : ∀ {L : List MRow}, (∀ r, r ∈ L → q (r.k, r.v) = p r) → kvs (L.filter p) = (kvs L).filter q
  | [], _ => rfl
  | r :: L, h => by
    have ih := kv_fil (p := p) (q := q) (L := L) (fun s hs => h s (List.mem_cons_of_mem _ hs))
    have h1 := h r List.mem_cons_self
    show kvs ((r :: L).filter p) = ((r.k, r.v) :: kvs L).filter q
    cases hp : p r with
    | true => rw [List.filter_cons_of_pos hp, fil_yes (h1.trans hp), ← ih]; rfl
    | false => rw [List.filter_cons_of_neg (by rw [hp]; decide), fil_no (h1.trans hp), ih]
theorem ag_old (s : Int) (r : MRow) : agK s (r.k, r.v) = !oldB s r := by
  unfold agK oldB
  by_cases h1 : cellI (some r.v) 1 = 1 <;> by_cases h2 : s ≤ cellI (some r.v) 2
  · simp [h1]
  · simp [h1]
  · simp [h1, h2]
  · simp [h1, h2]; omega

end Go.Proofs.Ytnkmfkongmijfaa
