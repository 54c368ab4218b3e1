/-
  Contracts of functions, and plain facts about them, that a claim of this seat uses.
-/
import Derived.Test.YtlhlegjndembdaaSx
import Derived.Test.YtlhlegjndembdaaOncA
import Derived.Test.YtlhlegjndembdaaProg
namespace Go.Proofs.Ytlhlegjndembdaa
open Go.Sx
set_option linter.unusedVariables false
set_option linter.unusedSimpArgs false
set_option maxRecDepth 100000

/-! numbers that come on two ways: the maps, the steps. -/
noncomputable def TK : MapT Try.prog := ⟨35, 3, 3, [.i64], true, [some .i64], true, Try.underlying35⟩
noncomputable def CM : MapT Try.prog := ⟨36, 3, 4, [.i64], true, [none], true, Try.underlying36⟩
theorem TK_ok : MapOK TK where
  law := Maps.int_keyed Try.underlying3
  key := fun l hl => by
    match l, hl with
    | [n], hl =>
      have h1 : (Lit.int .i64 n).wf = true := (Lit.wf_int_iff _ _).2 hl.1
      exact ⟨.int .i64 n, by show keyOf Try.prog 3 (.int .i64 n) = _; simp [keyOf, mapKey, Try.underlying3, h1]⟩
  zero := fun w => by
    show (zeroValue 3).run Try.prog w = .ok (.int .i64 0) w
    exact run_zero (P := Try.prog) (t := 3) (i := _) (z := _) rfl rfl w
  one := ⟨fun _ => rfl, fun _ => rfl⟩
theorem CM_ok : MapOK CM where
  law := Maps.int_keyed Try.underlying3
  key := fun l hl => by
    match l, hl with
    | [n], hl =>
      have h1 : (Lit.int .i64 n).wf = true := (Lit.wf_int_iff _ _).2 hl.1
      exact ⟨.int .i64 n, by show keyOf Try.prog 3 (.int .i64 n) = _; simp [keyOf, mapKey, Try.underlying3, h1]⟩
  zero := fun w => by
    show (zeroValue 4).run Try.prog w = .ok (.bool false) w
    exact run_zero (P := Try.prog) (t := 4) (i := _) (z := _) rfl rfl w
  one := ⟨fun _ => rfl, fun _ => rfl⟩
theorem get_mem {L : List MRow} {k v : List Int} (h : mpGet L k = some v) : ∃ r, r ∈ L ∧ r.k = k ∧ r.v = v := by
  unfold mpGet at h
  obtain ⟨r, hr, hv⟩ := Option.map_eq_some_iff.1 h
  exact ⟨r, List.mem_of_find?_eq_some hr, of_decide_eq_true (List.find?_some (p := fun r : MRow => decide (r.k = k)) hr), hv⟩
theorem get_none {L : List MRow} {k : List Int} (h : mpGet L k = none) : ∀ r, r ∈ L → r.k ≠ k := by
  unfold mpGet at h
  intro r hr hk
  have h1 := List.find?_eq_none.1 (Option.map_eq_none_iff.1 h) r hr
  exact h1 (decide_eq_true hk)
theorem put_mem {L : List MRow} {k v : List Int} {c : Nat} {r : MRow} (h : r ∈ mpPut L k v c) : (r.k = k ∧ r.v = v) ∨ (r ∈ L ∧ r.k ≠ k) := by
  unfold mpPut at h
  split at h
  · obtain ⟨s, hs, rfl⟩ := List.mem_map.1 h
    by_cases hk : s.k = k
    · left; rw [if_pos hk]; exact ⟨hk, rfl⟩
    · right; rw [if_neg hk]; exact ⟨hs, hk⟩
  · rename_i hh
    rcases List.mem_append.1 h with h1 | h1
    · right
      refine ⟨h1, fun hk => ?_⟩
      have : mpHas L k = true := mpHas_iff.2 ⟨r, h1, hk⟩
      rw [hh] at this; cases this
    · left
      rw [List.mem_singleton.1 h1]; exact ⟨rfl, rfl⟩
theorem get_put {ks : List IntKind} {L : List MRow} {c : Nat} (hL : MpOK ks L c) {k v : List Int} (hk : KeyW ks k) (k2 : List Int) : mpGet (mpPut L k v c) k2 = if k2 = k then some v else mpGet L k2 := by
  have hP := hL.put (v := v) hk
  by_cases h : k2 = k
  · subst h
    rw [if_pos rfl]
    have hm : ∃ r, r ∈ mpPut L k2 v c ∧ r.k = k2 := by
      unfold mpPut
      cases hh : mpHas L k2 with
      | true =>
        obtain ⟨r, hr, he⟩ := mpHas_iff.1 hh
        exact ⟨_, List.mem_map.2 ⟨r, hr, rfl⟩, by rw [if_pos he]; exact he⟩
      | false => exact ⟨_, List.mem_append_right _ (List.mem_singleton.2 rfl), rfl⟩
    obtain ⟨r, hr, he⟩ := hm
    have h2 := mpGet_some hP hr
    rw [he] at h2
    rw [h2]
    rcases put_mem hr with h3 | h3
    · rw [h3.2]
    · exact absurd he h3.2
  · rw [if_neg h]
    cases hg : mpGet L k2 with
    | none =>
      refine mpGet_none fun r hr he => ?_
      rcases put_mem hr with h3 | h3
      · exact h (he.symm.trans h3.1)
      · exact get_none hg r h3.1 he
    | some u =>
      obtain ⟨r, hr, h1, h2⟩ := get_mem hg
      have hm : r ∈ mpPut L k v c := by
        unfold mpPut
        cases hh : mpHas L k with
        | true => exact List.mem_map.2 ⟨r, hr, if_neg (by rw [h1]; exact h)⟩
        | false => exact List.mem_append_left _ hr
      have h3 := mpGet_some hP hm
      rw [h1, h2] at h3; exact h3
def unmet (L seen : List MRow) : List MRow := L.filter fun r => !(seen.any fun s => decide (s.b = r.b))
theorem un_lt {L seen : List MRow} {r : MRow} (h : r ∈ L) (hs : ∀ s, s ∈ seen → s.b ≠ r.b) : (unmet L (r :: seen)).length < (unmet L seen).length := by
  have e : unmet L (r :: seen) = (unmet L seen).filter fun s => !decide (r.b = s.b) := by
    unfold unmet
    rw [List.filter_filter]
    refine List.filter_congr fun s _ => ?_
    rw [List.any_cons, Bool.not_or]
  rw [e]
  have hr : r ∈ unmet L seen := List.mem_filter.2 ⟨h, by
    rw [Bool.not_eq_true', List.any_eq_false]
    intro s hss
    simpa using hs s hss⟩
  rcases Nat.lt_or_ge ((unmet L seen).filter fun s => !decide (r.b = s.b)).length (unmet L seen).length with h1 | h1
  · exact h1
  · have h2 := List.filter_sublist (p := fun s : MRow => !decide (r.b = s.b)) (l := unmet L seen) |>.eq_of_length_le h1
    have h3 := List.filter_eq_self.1 h2 r hr
    simp at h3
/-- a map knows of each that came that it came once -/
structure MpI (C : Nat → Bool) (L : List MRow) (c : Nat) : Prop where
  ok : MpOK [.i64] L c
  get : ∀ n : Int, mpGet L [n] = if 0 ≤ n ∧ C n.toNat = true then some [1] else none
theorem mpi_0 : MpI (fun _ => false) [] 0 := ⟨mpOK_nil _, fun n => by rw [if_neg (fun h => by have := h.2; cases this)]; rfl⟩
theorem key_w {k : Nat} (h : k ≤ 1000) : KeyW [.i64] [(k : Int)] := ⟨⟨by show (-9223372036854775808 : Int) ≤ k; omega, by show (k : Int) ≤ 9223372036854775807; omega⟩, trivial⟩
theorem mpi_put {C : Nat → Bool} {L : List MRow} {c k : Nat} (h : MpI C L c) (hk : k ≤ 1000) : MpI (setC C k) (mpPut L [(k : Int)] [1] c) (mpTick L [(k : Int)] c) := by
  refine ⟨h.ok.put (key_w hk), fun n => ?_⟩
  rw [get_put h.ok (key_w hk), h.get]
  by_cases hn : n = (k : Int)
  · subst hn
    rw [if_pos rfl, if_pos ⟨by omega, by simp [setC]⟩]
  · rw [if_neg (fun hh => hn (List.cons.inj hh).1)]
    have e : (0 ≤ n ∧ setC C k n.toNat = true) ↔ (0 ≤ n ∧ C n.toNat = true) := by
      simp only [setC, Bool.or_eq_true, decide_eq_true_eq]
      constructor
      · rintro ⟨h1, h2⟩
        exact ⟨h1, h2.resolve_left (by omega)⟩
      · rintro ⟨h1, h2⟩
        exact ⟨h1, .inr h2⟩
    by_cases h9 : 0 ≤ n ∧ C n.toNat = true
    · rw [if_pos h9, if_pos (e.2 h9)]
    · rw [if_neg h9, if_neg (fun h8 => h9 (e.1 h8))]
theorem mpi_no {C : Nat → Bool} {L : List MRow} {c k : Nat} (h : MpI C L c) (hc : C k = false) : mpGet L [(k : Int)] = none := by
  rw [h.get, if_neg (fun h9 => by rw [Int.toNat_natCast, hc] at h9; cases h9.2)]
theorem mpi_yes {C : Nat → Bool} {L : List MRow} {c k : Nat} (h : MpI C L c) (hc : C k = true) : mpGet L [(k : Int)] = some [1] := by
  rw [h.get, if_pos ⟨by omega, by rw [Int.toNat_natCast]; exact hc⟩]
theorem mpi_same {C : Nat → Bool} {L : List MRow} {c k : Nat} (h : MpI C L c) (hc : C k = true) : MpI (setC C k) L c := by
  have : setC C k = C := by
    funext j
    simp only [setC]
    by_cases hj : j = k
    · subst hj; rw [hc]; simp
    · rw [decide_eq_false hj, Bool.false_or]
  rw [this]; exact h
theorem mpi_row {C : Nat → Bool} {L M : List MRow} {c d : Nat} (h : MpI C L c) (h2 : MpI C M d) {r : MRow} (hr : r ∈ L) : ∃ n : Int, r.k = [n] ∧ mpGet M [n] = some [1] := by
  have hk := h.ok.len r hr
  match e : r.k, hk with
  | [n], _ =>
    refine ⟨n, rfl, ?_⟩
    have h3 := mpGet_some h.ok hr
    rw [e, h.get] at h3
    rw [h2.get]
    by_cases h9 : 0 ≤ n ∧ C n.toNat = true
    · rw [if_pos h9]
    · rw [if_neg h9] at h3; cases h3
/-! where the highest stands -/
structure Ps (C : Nat → Bool) (i : Nat) : Prop where
  lt : ∀ k, C k = true → k < i
  hi : ((∀ k, C k = false) ∧ i ≤ 7) ∨ ∃ H, C H = true ∧ i ≤ H + 8
structure Pm (C : Nat → Bool) (i : Nat) : Prop where
  lt : ∀ k, C k = true → k ≤ i
  hi : ((∀ k, C k = false) ∧ i ≤ 7) ∨ ∃ H, C H = true ∧ i ≤ H + 8
def Near (C : Nat → Bool) (k : Nat) : Prop := ∀ H, C H = true → (∀ j, C j = true → j ≤ H) → k ≤ H + 15 ∧ H ≤ k + 15
theorem set_at (C : Nat → Bool) (k : Nat) : setC C k k = true := by simp [setC]
theorem set_or {C : Nat → Bool} {k j : Nat} (h : setC C k j = true) : j = k ∨ C j = true := by simpa [setC] using h
theorem ps_0 : Ps (fun _ => false) 0 := ⟨fun k h => (by cases h), .inl ⟨fun _ => rfl, by omega⟩⟩
theorem ps_near {C : Nat → Bool} {i : Nat} (h : Ps C i) : Near C i := fun H hH hm => by
  have := h.lt H hH
  rcases h.hi with ⟨h1, _⟩ | ⟨G, h1, h2⟩
  · rw [h1] at hH; cases hH
  · have := hm G h1; omega
theorem ps_skip {C : Nat → Bool} {i : Nat} (h : Ps C i) : Pm C i := ⟨fun k hk => Nat.le_of_lt (h.lt k hk), h.hi⟩
theorem ps_first {C : Nat → Bool} {i : Nat} (h : Ps C i) : Pm (setC C i) i := ⟨fun k hk => by
  rcases set_or hk with h1 | h1
  · omega
  · exact Nat.le_of_lt (h.lt k h1), .inr ⟨i, set_at C i, by omega⟩⟩
theorem pm_near {C : Nat → Bool} {i k : Nat} (h : Pm C i) (h1 : k ≤ i) (h2 : i ≤ k + 7) : Near C k := fun H hH hm => by
  have := h.lt H hH
  rcases h.hi with ⟨h3, _⟩ | ⟨G, h3, h4⟩
  · rw [h3] at hH; cases hH
  · have := hm G h3; omega
theorem pm_back {C : Nat → Bool} {i k : Nat} (h : Pm C i) (h1 : k ≤ i) (h2 : i ≤ k + 7) : Ps (setC C k) (i + 1) := ⟨fun j hj => by
  rcases set_or hj with h3 | h3
  · omega
  · have := h.lt j h3; omega, .inr ⟨k, set_at C k, by omega⟩⟩
theorem pm_had {C : Nat → Bool} {i k : Nat} (h : Pm C i) (hk : C k = true) (h2 : i ≤ k + 7) : Ps C (i + 1) := ⟨fun j hj => by have := h.lt j hj; omega, .inr ⟨k, hk, by omega⟩⟩
theorem pm_neg {C : Nat → Bool} {i : Nat} (h : Pm C i) (h2 : i ≤ 6) : Ps C (i + 1) := ⟨fun j hj => by have := h.lt j hj; omega, by
  rcases h.hi with ⟨h3, _⟩ | ⟨G, h3, h4⟩
  · exact .inl ⟨h3, by omega⟩
  · exact .inr ⟨G, h3, by omega⟩⟩
theorem give2 {f L : Int} {C : Nat → Bool} {s : Sq} {k tc cc : Nat} {tk cm : List MRow} {kI q : Int} (h : OnI f L C s) (ht : MpI C tk tc) (hc : MpI C cm cc) (hf : 0 ≤ f ∧ f ≤ 65535) (hL : 16 ≤ L ∧ L ≤ 47) (hk : k ≤ 1000) (near : Near C k) (hkI : kI = (k : Int)) (hq : q = (f + k) % 65536) :
    (s.in_ kI q).2.1 = 0 ∧ ¬ (s.in_ kI q).1 = 2 ∧ OnI f L (setC C k) (s.in_ kI q).2.2 ∧ MpI (setC C k) (mpPut cm [kI] [1] cc) (mpTick cm [kI] cc) ∧
    ((s.in_ kI q).1 = 0 ∨ (s.in_ kI q).1 = 3 → MpI (setC C k) (mpPut tk [kI] [IntKind.i64.wrap (cellI (mpGet tk [kI]) 0 + 1)] tc) (mpTick tk [kI] tc)) ∧ (¬ (s.in_ kI q).1 = 0 → ¬ (s.in_ kI q).1 = 3 → MpI (setC C k) tk tc) := by
  subst hkI hq
  obtain ⟨g1, g2, g3, g4⟩ := give h hf hL hk near
  refine ⟨g1, ?_, g4, mpi_put hc hk, fun h0 => ?_, fun h0 h3 => ?_⟩
  · cases hC : C k with
    | false => have := g2 hC; omega
    | true => have := g3 hC; omega
  · have hC : C k = false := by
      cases hC : C k with
      | false => rfl
      | true => have := g3 hC; omega
    rw [mpi_no ht hC]
    exact mpi_put ht hk
  · have hC : C k = true := by
      cases hC : C k with
      | true => rfl
      | false => have := g2 hC; omega
    exact mpi_same ht hC
theorem onk_0 {f L : Int} {x y : Int} : OnI f L (fun _ => false) ⟨0, L, 1099511627776, true, x, 0, 0, y, y, y, y, y, y⟩ := ⟨rfl, rfl, rfl, ⟨Int.le_refl _, by show (0 : Int) ≤ 1000; decide⟩, (⟨by decide, by decide⟩ : U6 0), .inl ⟨rfl, fun _ => rfl⟩⟩
theorem key_1 {k : List Int} (h : KeyW [.i64] k) : KeyW [.i64] [k.getD 0 0] := by
  match k, h with
  | [n], h => exact h
theorem mpi_came {C : Nat → Bool} {L : List MRow} {c : Nat} (h : MpI C L c) {n : Int} (h0 : 0 ≤ n) (h1 : (!decide (cellI (mpGet L [n]) 0 = 1)) = false) : C n.toNat = true := by
  rw [h.get] at h1
  by_cases h9 : 0 ≤ n ∧ C n.toNat = true
  · exact h9.2
  · rw [if_neg h9] at h1
    exact absurd h1 (by decide)
theorem mpi_one {C : Nat → Bool} {L M : List MRow} {c d : Nat} (h : MpI C L c) (h2 : MpI C M d) {r : MRow} (hr : r ∈ L) : cellI (mpGet M [r.k.getD 0 0]) 0 = 1 := by
  obtain ⟨n, h3, h4⟩ := mpi_row h h2 hr
  rw [h3]
  show cellI (mpGet M [n]) 0 = 1
  rw [h4]; rfl

end Go.Proofs.Ytlhlegjndembdaa
