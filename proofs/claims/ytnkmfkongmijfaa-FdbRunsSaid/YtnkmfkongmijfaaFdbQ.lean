/-
  Contracts of functions, and plain facts about them, that a claim of this seat uses.
-/
import Derived.Test.YtnkmfkongmijfaaSx
import Derived.Test.YtnkmfkongmijfaaFdbK
import Derived.Test.YtnkmfkongmijfaaProg
namespace Go.Proofs.Ytnkmfkongmijfaa
open Go.Sx
set_option linter.unusedVariables false
set_option linter.unusedSimpArgs false
set_option maxRecDepth 100000

/-! fdb: what is in a map, plainly; the laws FdbRoom, FdbMoves, FdbTags. -/
theorem get_mem {L : List MRow} {k v : List Int} (h : mpGet L k = some v) : ∃ r, r ∈ L ∧ r.k = k ∧ r.v = v := by
  unfold mpGet at h
  obtain ⟨r, hr, hv⟩ := Option.map_eq_some_iff.1 h
  exact ⟨r, List.mem_of_find?_eq_some hr, of_decide_eq_true (List.find?_some (p := fun r : MRow => decide (r.k = k)) hr), hv⟩
theorem get_none {L : List MRow} {k : List Int} (h : mpGet L k = none) : ∀ r, r ∈ L → r.k ≠ k := by
  unfold mpGet at h
  intro r hr hk
  have h1 := List.find?_eq_none.1 (Option.map_eq_none_iff.1 h) r hr
  exact h1 (decide_eq_true hk)
theorem put_mem {L : List MRow} {k v : List Int} {c : Nat} {r : MRow} (h : r ∈ mpPut L k v c) : (r.k = k ∧ r.v = v) ∨ (r ∈ L ∧ r.k ≠ k) := by
  unfold mpPut at h
  split at h
  · obtain ⟨s, hs, rfl⟩ := List.mem_map.1 h
    by_cases hk : s.k = k
    · left; rw [if_pos hk]; exact ⟨hk, rfl⟩
    · right; rw [if_neg hk]; exact ⟨hs, hk⟩
  · rename_i hh
    rcases List.mem_append.1 h with h1 | h1
    · right
      refine ⟨h1, fun hk => ?_⟩
      have : mpHas L k = true := mpHas_iff.2 ⟨r, h1, hk⟩
      rw [hh] at this; cases this
    · left
      rw [List.mem_singleton.1 h1]; exact ⟨rfl, rfl⟩
theorem get_put {ks : List IntKind} {L : List MRow} {c : Nat} (hL : MpOK ks L c) {k v : List Int} (hk : KeyW ks k) (k2 : List Int) : mpGet (mpPut L k v c) k2 = if k2 = k then some v else mpGet L k2 := by
  have hP := hL.put (v := v) hk
  by_cases h : k2 = k
  · subst h
    rw [if_pos rfl]
    have hm : ∃ r, r ∈ mpPut L k2 v c ∧ r.k = k2 := by
      unfold mpPut
      cases hh : mpHas L k2 with
      | true =>
        obtain ⟨r, hr, he⟩ := mpHas_iff.1 hh
        exact ⟨_, List.mem_map.2 ⟨r, hr, rfl⟩, by rw [if_pos he]; exact he⟩
      | false => exact ⟨_, List.mem_append_right _ (List.mem_singleton.2 rfl), rfl⟩
    obtain ⟨r, hr, he⟩ := hm
    have h2 := mpGet_some hP hr
    rw [he] at h2
    rw [h2]
    rcases put_mem hr with h3 | h3
    · rw [h3.2]
    · exact absurd he h3.2
  · rw [if_neg h]
    cases hg : mpGet L k2 with
    | none =>
      refine mpGet_none fun r hr he => ?_
      rcases put_mem hr with h3 | h3
      · exact h (he.symm.trans h3.1)
      · exact get_none hg r h3.1 he
    | some u =>
      obtain ⟨r, hr, h1, h2⟩ := get_mem hg
      have hm : r ∈ mpPut L k v c := by
        unfold mpPut
        cases hh : mpHas L k with
        | true => exact List.mem_map.2 ⟨r, hr, if_neg (by rw [h1]; exact h)⟩
        | false => exact List.mem_append_left _ hr
      have h3 := mpGet_some hP hm
      rw [h1, h2] at h3; exact h3
theorem put_nil (k v : List Int) (c : Nat) : mpPut [] k v c = [⟨k, v, c⟩] := rfl
theorem one_ok {ks : List IntKind} {k v : List Int} {b c : Nat} (h : KeyW ks k) (hb : b < c) : MpOK ks [⟨k, v, b⟩] c :=
  ⟨fun r hr => by rw [List.mem_singleton.1 hr]; exact h, fun r hr => by rw [List.mem_singleton.1 hr]; exact hb, List.pairwise_singleton _ _⟩
theorem len_split {α : Type} : ∀ (L : List α) (d : α → Bool), (L.filter d).length + (L.filter fun x => !d x).length = L.length
  | [], _ => rfl
  | x :: L, d => by
    have ih := len_split L d
    cases h : d x with
    | true => rw [List.filter_cons_of_pos h, List.filter_cons_of_neg (by simp [h])]; simp only [List.length_cons]; omega
    | false => rw [List.filter_cons_of_neg (by simp [h]), List.filter_cons_of_pos (by simp [h])]; simp only [List.length_cons]; omega
theorem only_one {ks : List IntKind} {L : List MRow} {c : Nat} (hL : MpOK ks L c) {k v : List Int} (h : mpGet L k = some v) : (L.filter fun r => decide (r.k = k)).length = 1 := by
  obtain ⟨r, hr, rfl, _⟩ := get_mem h
  have h1 := del_one hL hr
  have h2 := len_split L (fun s : MRow => decide (s.k = r.k))
  unfold mpDel at h1
  omega
/-! FdbRoom -/
def K0 : List Int := [2, 0, 0, 0, 0, 0, 0]
def P0 : Pl := ⟨2, 0, 0, 0, 0, 0, 0⟩
def Pb (b : Int) : Pl := ⟨2, 0, 0, 0, 0, 0, b⟩
structure RmI (now rm : Int) (t : Ft) : Prop where
  n : t.n = 4
  room : t.room = rm
  ok : MpOK AT.ks t.al t.ca
  le : (t.al.length : Int) ≤ rm
  k0 : mpGet t.al K0 = some [8, 1, 0]
  all : ∀ r, r ∈ t.al → r.k = K0 ∨ ∃ b, r.v = [b, 0, now]
  vl : mpGet t.vl [2] = some [15, 0]
theorem c2 : IntKind.i64.min ≤ 2 ∧ 2 ≤ IntKind.i64.max := by decide
theorem c0 : IntKind.u8.min ≤ 0 ∧ 0 ≤ IntKind.u8.max := by decide
theorem pw_b {b : Int} (h : 0 ≤ b ∧ b ≤ 255) : PlW (Pb b) := ⟨c2, c0, c0, c0, c0, c0, ⟨h.1, h.2⟩, trivial⟩
theorem K0_w : KeyW AT.ks K0 := pw_b (b := 0) ⟨by decide, by decide⟩
def rmT (room : Int) : Ft := svT (ft0 4 room) 2 ⟨15, 0⟩
theorem rm_sv (room : Int) : svE (ft0 4 room) 2 ⟨15, 0⟩ = 0 ∧ rmT room = { ft0 4 room with vl := [⟨[2], [15, 0], 0⟩], cv := 1 } := by
  have h : ¬ svBad (ft0 4 room) 2 ⟨15, 0⟩ := by
    unfold svBad
    rintro (h | h | h | h)
    · exact h (by decide)
    · exact absurd h (by decide)
    · exact absurd h (by show ¬ ((2 ^ 4 : Nat) : Int) ≤ 15; decide)
    · exact h (by show bits .andNot .i64 0 15 = 0; decide)
  refine ⟨if_neg h, ?_⟩
  unfold rmT svT
  rw [if_neg h]; rfl
theorem rm_sp {room : Int} (hr : 1 ≤ room) : spE (rmT room) P0 8 = 0 ∧ spT (rmT room) P0 8 = { rmT room with al := [⟨K0, [8, 1, 0], 0⟩], ca := 1 } := by
  have e := (rm_sv room).2
  have hb : ¬ spBad (rmT room) P0 8 := by
    rw [e]
    rintro (h | h | h)
    · exact h (by decide)
    · exact absurd h (by decide)
    · exact absurd h (by show ¬ ((2 ^ 4 : Nat) : Int) ≤ 8; decide)
  have hf : ¬ spFull (rmT room) P0 := by
    rw [e]
    rintro ⟨_, h⟩
    have h : room ≤ ((0 : Nat) : Int) := h
    omega
  obtain ⟨h1, h2⟩ := sp_put (b := 8) hb (by decide) hf
  refine ⟨h1, h2.trans ?_⟩
  rw [e]; rfl
theorem rm_init {now room : Int} (hr : 1 ≤ room) : RmI now room (spT (rmT room) P0 8) := by
  rw [(rm_sp hr).2, (rm_sv room).2]
  exact ⟨rfl, rfl, one_ok K0_w Nat.one_pos, by show ((1 : Nat) : Int) ≤ room; omega, rfl, fun r hr => .inl (by rw [List.mem_singleton.1 hr]), rfl⟩
theorem rm_step {now room : Int} {t : Ft} (h : RmI now room t) {b a : Int} (hb : 0 ≤ b ∧ b ≤ 255) (ha : 0 ≤ a ∧ a ≤ 3) : (lrE t (Pb b) a = 0 ∨ (lrE t (Pb b) a = 30 ∧ ((lrT t (Pb b) a now).al.length : Int) = room)) ∧ RmI now room (lrT t (Pb b) a now) := by
  have hv : vidP (Pb b).vid := by show vidP 2; decide
  have hr : ¬ (a < 0 ∨ (t.n : Int) ≤ a) := by rw [h.n]; omega
  have hg : ¬ grp (Pb b) := by show ¬ bits .and .u8 0 1 = 1; decide
  cases hs : isSt t (Pb b) with
  | true =>
    obtain ⟨e1, e2⟩ := lr_no (now := now) (lr_0 hv hr hg hs)
    rw [e1, e2]; exact ⟨.inl rfl, h⟩
  | false =>
    by_cases hf : known t (Pb b) = false ∧ t.room ≤ (t.al.length : Int)
    · obtain ⟨e1, e2⟩ := lr_no (now := now) (lr_30 hv hr hg hs hf)
      rw [e1, e2]
      exact ⟨.inr ⟨rfl, by have := h.le; have := hf.2; rw [h.room] at this; omega⟩, h⟩
    · obtain ⟨e1, e2⟩ := lr_yes (now := now) (lr_go hv hr hg hs hf)
      have hk : plK (Pb b) ≠ K0 := fun hk => by
        have : isSt t (Pb b) = true := by
          unfold isSt aGet
          rw [hk, h.k0]; rfl
        rw [hs] at this; cases this
      rw [e1, e2]
      refine ⟨.inl rfl, h.n, h.room, h.ok.put (pw_b hb), ?_, ?_, fun r hr => ?_, h.vl⟩
      · have := put_len (known_has t (Pb b) ▸ hf) (k := plK (Pb b)) (v := [bitI a, 0, now]) (c := t.ca) (by rw [h.room]; exact h.le)
        rw [h.room] at this; exact this
      · show mpGet (mpPut t.al (plK (Pb b)) _ t.ca) K0 = _
        rw [get_put h.ok (pw_b hb), if_neg (fun hh => hk hh.symm)]; exact h.k0
      · rcases put_mem hr with h1 | h1
        · exact .inr ⟨bitI a, h1.2⟩
        · exact h.all r h1.1
theorem rm_row {now room : Int} {t : Ft} (h : RmI now room t) {r : MRow} (hr : r ∈ t.al) : (r.k = K0 ∧ r.v = [8, 1, 0]) ∨ (r.k ≠ K0 ∧ ∃ b, r.v = [b, 0, now]) := by
  by_cases hk : r.k = K0
  · have h1 := mpGet_some h.ok hr
    rw [hk, h.k0] at h1
    exact .inl ⟨hk, (Option.some.inj h1).symm⟩
  · rcases h.all r hr with h1 | h1
    · exact absurd h1 hk
    · exact .inr ⟨hk, h1⟩
theorem rm_old {now room s : Int} {t : Ft} (h : RmI now room t) {r : MRow} (hr : r ∈ t.al) : oldB s r = (!decide (r.k = K0) && decide (now < s)) := by
  unfold oldB
  rcases rm_row h hr with ⟨h1, h2⟩ | ⟨h1, b, h2⟩
  · rw [h2, h1]; rfl
  · rw [h2]
    simp [h1, cellI]
theorem rm_keep {now room : Int} {t : Ft} (h : RmI now room t) : agL t now = t.al ∧ agT t now = t := by
  have : agL t now = t.al := List.filter_eq_self.2 fun r hr => by rw [rm_old h hr]; simp
  exact ⟨this, by unfold agT; rw [this]⟩
theorem rm_age {now room : Int} {t : Ft} (h : RmI now room t) : (agL t (now + 1)).length = 1 := by
  rw [← only_one h.ok h.k0]
  refine congrArg List.length (List.filter_congr fun r hr => ?_)
  rw [rm_old h hr]
  simp; omega
theorem rm_out {now room : Int} {t : Ft} (h : RmI now room t) : otP t 0 P0 = 8 := by
  unfold otP
  rw [if_neg (by rw [h.n]; decide)]
  have h1 : aGet t P0 = some [8, 1, 0] := h.k0
  have h2 : vPo t P0.vid = 15 := by
    unfold vPo
    rw [show mpGet t.vl [P0.vid] = some [15, 0] from h.vl]; rfl
  rw [h1, h2]; decide
/-! FdbMoves -/
def vId (v : Int) : Int := IntKind.i64.wrap (1 + bits .and .i64 v 1023)
theorem vId_in (v : Int) : 1 ≤ vId v ∧ vId v ≤ 1024 := by
  have h : bits .and .i64 v 1023 = v % 1024 := and_mask v 10 (by decide)
  unfold vId
  rw [h, w64' (by omega) (by omega)]; omega
theorem sv_good {t : Ft} {x po : Int} (hx : 1 ≤ x ∧ x ≤ 1024) (h0 : 0 ≤ po) (h1 : po < ((2 ^ t.n : Nat) : Int)) : svE t x ⟨po, 0⟩ = 0 ∧ svT t x ⟨po, 0⟩ = { t with vl := mpPut t.vl [x] [po, 0] t.cv, cv := mpTick t.vl [x] t.cv } := by
  have h : ¬ svBad t x ⟨po, 0⟩ := by
    unfold svBad
    rintro (h | h | h | h)
    · exact h ⟨hx.1, by omega⟩
    · have h : po < 0 := h
      omega
    · have h : ((2 ^ t.n : Nat) : Int) ≤ po := h
      omega
    · exact h (not_zero (by show bv 0 &&& ~~~ bv po = 0; unfold bv; simp))
  exact ⟨if_neg h, if_neg h⟩
structure MvI (p : Pl) (i last : Int) (t : Ft) : Prop where
  n : t.n = 6
  room : t.room = 9
  vl : mpGet t.vl [p.vid] = some [63, 0]
  al : (last = -1 ∧ t.al = []) ∨ (0 ≤ last ∧ last ≤ 5 ∧ ∃ s b, s < i ∧ t.al = [⟨plK p, [bitI last, 0, s], b⟩])
theorem key1 (x : Int) (h : 1 ≤ x ∧ x ≤ 1024) : KeyW [.i64] [x] := ⟨⟨by show (-9223372036854775808 : Int) ≤ x; omega, by show x ≤ (9223372036854775807 : Int); omega⟩, trivial⟩
theorem mv_init {p : Pl} {i : Int} (hx : 1 ≤ p.vid ∧ p.vid ≤ 1024) : MvI p i (-1) (svT (ft0 6 9) p.vid ⟨63, 0⟩) := by
  rw [(sv_good (t := ft0 6 9) hx (by decide) (by show (63 : Int) < ((2 ^ 6 : Nat) : Int); decide)).2]
  refine ⟨rfl, rfl, ?_, .inl ⟨rfl, rfl⟩⟩
  show mpGet [⟨[p.vid], [63, 0], 0⟩] [p.vid] = _
  unfold mpGet
  simp
theorem mv_step {p : Pl} {i last : Int} {t : Ft} (h : MvI p i last t) (hx : 1 ≤ p.vid ∧ p.vid ≤ 1024) (hg : ¬ grp p) {a : Int} (ha : 0 ≤ a ∧ a ≤ 5) : lrE t p a = 0 ∧ MvI p (i + 1) a (lrT t p a i) := by
  have hv : vidP p.vid := ⟨by omega, by omega⟩
  have hr : ¬ (a < 0 ∨ (t.n : Int) ≤ a) := by rw [h.n]; omega
  rcases h.al with ⟨_, hal⟩ | ⟨_, _, s, b, hs, hal⟩
  · have hn : aGet t p = none := by unfold aGet; rw [hal]; rfl
    obtain ⟨e1, e2⟩ := lr_yes (now := i) (lr_go hv hr hg (by unfold isSt; rw [hn]; rfl) (by rw [hal, h.room]; rintro ⟨_, h9⟩; exact absurd h9 (by decide)))
    rw [e1, e2]
    refine ⟨rfl, h.n, h.room, h.vl, .inr ⟨ha.1, ha.2, i, t.ca, by omega, ?_⟩⟩
    show mpPut t.al (plK p) _ t.ca = _
    rw [hal]; rfl
  · have hn : aGet t p = some [bitI last, 0, s] := by unfold aGet; rw [hal]; unfold mpGet; simp
    obtain ⟨e1, e2⟩ := lr_yes (now := i) (lr_go hv hr hg (by unfold isSt; rw [hn]; rfl) (by unfold known; rw [hn]; rintro ⟨h9, _⟩; cases h9))
    rw [e1, e2]
    refine ⟨rfl, h.n, h.room, h.vl, .inr ⟨ha.1, ha.2, i, b, by omega, ?_⟩⟩
    show mpPut t.al (plK p) _ t.ca = _
    rw [hal]; unfold mpPut mpHas; simp
def mvW (last a : Int) : Int := if 0 ≤ last then bits .andNot .i64 (bitI last) (bitI a) else bits .andNot .i64 63 (bitI a)
theorem six {a : Int} (h : 0 ≤ a ∧ a ≤ 5) : a = 0 ∨ a = 1 ∨ a = 2 ∨ a = 3 ∨ a = 4 ∨ a = 5 := by omega
theorem mv_out {p : Pl} {i last : Int} {t : Ft} (h : MvI p i last t) {a : Int} (ha : 0 ≤ a ∧ a ≤ 5) : otP t a p = mvW last a ∧ otB t a p = 0 := by
  have hr : ¬ (a < 0 ∨ (t.n : Int) ≤ a) := by rw [h.n]; omega
  have h2 : vPo t p.vid = 63 := by unfold vPo; rw [h.vl]; rfl
  have h3 : vBa t p.vid = 0 := by unfold vBa; rw [h.vl]; rfl
  have e1 : otP t a p = mvW last a := by
    unfold otP mvW
    rw [if_neg hr, h2]
    rcases h.al with ⟨h4, hal⟩ | ⟨h4, h5, s, b, hs, hal⟩
    · have hn : aGet t p = none := by unfold aGet; rw [hal]; rfl
      rw [hn, if_neg (by omega)]
    · have hn : aGet t p = some [bitI last, 0, s] := by unfold aGet; rw [hal]; unfold mpGet; simp
      rw [hn, if_pos h4]
      show bits .andNot .i64 (bits .and .i64 63 (bitI last)) (bitI a) = _
      have : bits .and .i64 63 (bitI last) = bitI last := by
        rcases six ⟨h4, h5⟩ with rfl | rfl | rfl | rfl | rfl | rfl <;> decide
      rw [this]
  refine ⟨e1, ?_⟩
  unfold otB
  rw [if_neg hr, h3, e1]
  show IntKind.i64.wrap ((bv (mvW last a) &&& bv 0).toNat : Int) = 0
  have : bv (mvW last a) &&& bv 0 = 0 := by unfold bv; simp
  rw [this]; rfl
theorem mv_age {p : Pl} {i last s : Int} {t : Ft} (h : MvI p i last t) (hs : i ≤ s) : agL t s = [] ∧ (t.al.length = 1 ↔ 0 ≤ last) ∧ t.al.length ≤ 1 := by
  unfold agL
  rcases h.al with ⟨h4, hal⟩ | ⟨h4, h5, q, b, hq, hal⟩
  · rw [hal]; exact ⟨rfl, ⟨fun h9 => (by cases h9), fun h9 => (by omega)⟩, Nat.zero_le _⟩
  · rw [hal]
    refine ⟨?_, ⟨fun _ => h4, fun _ => rfl⟩, Nat.le_refl _⟩
    have : oldB s ⟨plK p, [bitI last, 0, q], b⟩ = true := by
      unfold oldB
      show (!decide ((0 : Int) = 1) && decide (q < s)) = true
      rw [decide_eq_true (by omega : q < s)]; rfl
    rw [List.filter_cons_of_neg (by rw [this]; decide)]; rfl
theorem mv_end {p : Pl} {i last s : Int} {t : Ft} (h : MvI p i last t) (hs : i ≤ s) : otP (agT t s) 0 p = 62 ∧ (agT t s).al = [] := by
  have e := (mv_age h hs).1
  refine ⟨?_, e⟩
  unfold otP
  rw [if_neg (by show ¬ ((0 : Int) < 0 ∨ (t.n : Int) ≤ 0); rw [h.n]; decide)]
  have hn : aGet (agT t s) p = none := by
    show mpGet (agL t s) _ = none
    rw [e]; rfl
  have h2 : vPo (agT t s) p.vid = 63 := by
    show cellI (mpGet t.vl [p.vid]) 0 = 63
    rw [h.vl]; rfl
  rw [hn, h2]; decide
theorem even_u8 : ∀ x : Fin 256, ¬ bits .and .u8 (bits .and .u8 (x.val : Int) 254) 1 = 1 := by decide
theorem even_m {x : Int} (h : 0 ≤ x ∧ x ≤ 255) : ¬ bits .and .u8 (bits .and .u8 x 254) 1 = 1 := by
  have := even_u8 ⟨x.toNat, by omega⟩
  rwa [show ((⟨x.toNat, by omega⟩ : Fin 256).val : Int) = x by show ((x.toNat : Nat) : Int) = x; omega] at this
theorem in_u8 (x : Int) : 0 ≤ bits .and .u8 x 254 ∧ bits .and .u8 x 254 ≤ 255 := by
  show 0 ≤ IntKind.u8.wrap _ ∧ IntKind.u8.wrap _ ≤ 255
  rw [wu8]; omega
/-! FdbTags -/
structure TgI (p : Pt) (D : Int) (t : Ft) : Prop where
  n : t.n = 2
  pv : t.pv 1 = p.v
  pp : ∀ k, t.pp k 1 = p.p k
  po : vPo t D = 3
  pw : vPo t p.v = 2 ∨ vPo t p.v = 3
theorem tg_st {p : Pt} (hv : 1 ≤ p.v ∧ p.v ≤ 1024) : (stE (ft0 2 1) 1 p = 0 ∧ stT (ft0 2 1) 1 p = putPt (ft0 2 1) 1 p) ∨ (stE (ft0 2 1) 1 p = 1 ∧ stT (ft0 2 1) 1 p = ft0 2 1) := by
  have hr : ¬ ((1 : Int) < 0 ∨ ((ft0 2 1).n : Int) ≤ 1) := by show ¬ ((1 : Int) < 0 ∨ ((2 : Nat) : Int) ≤ 1); decide
  by_cases h : prTo p 8
  · exact .inl (st_0 hr h ⟨hv.1, by omega⟩)
  · exact .inr (st_1 hr (.inl h))
theorem tg_1 {p : Pt} (hv : 1 ≤ p.v ∧ p.v ≤ 1024) : svE (putPt (ft0 2 1) 1 p) p.v ⟨2, 0⟩ = 0 ∧ svT (putPt (ft0 2 1) 1 p) p.v ⟨2, 0⟩ = { putPt (ft0 2 1) 1 p with vl := [⟨[p.v], [2, 0], 0⟩], cv := 1 } := by
  obtain ⟨e1, e2⟩ := sv_good (t := putPt (ft0 2 1) 1 p) (x := p.v) (po := 2) hv (by decide) (by show (2 : Int) < ((2 ^ 2 : Nat) : Int); decide)
  exact ⟨e1, e2⟩
theorem tg_2 {p : Pt} {D : Int} (hv : 1 ≤ p.v ∧ p.v ≤ 1024) (hD : 1 ≤ D ∧ D ≤ 1024) : svE (svT (putPt (ft0 2 1) 1 p) p.v ⟨2, 0⟩) D ⟨3, 0⟩ = 0 ∧ TgI p D (svT (svT (putPt (ft0 2 1) 1 p) p.v ⟨2, 0⟩) D ⟨3, 0⟩) := by
  rw [(tg_1 hv).2]
  obtain ⟨e1, e2⟩ := sv_good (t := { putPt (ft0 2 1) 1 p with vl := [⟨[p.v], [2, 0], 0⟩], cv := 1 }) (x := D) (po := 3) hD (by decide) (by show (3 : Int) < ((2 ^ 2 : Nat) : Int); decide)
  have hk : KeyW [.i64] [p.v] := key1 _ hv
  have hd : KeyW [.i64] [D] := key1 _ hD
  have hL : MpOK [.i64] [⟨[p.v], [2, 0], 0⟩] 1 := one_ok hk Nat.one_pos
  refine ⟨e1, ?_⟩
  rw [e2]
  refine ⟨rfl, rfl, fun _ => rfl, ?_, ?_⟩
  · show cellI (mpGet (mpPut _ [D] [3, 0] 1) [D]) 0 = 3
    rw [get_put hL hd, if_pos rfl]; rfl
  · show cellI (mpGet (mpPut _ [D] [3, 0] 1) [p.v]) 0 = 2 ∨ cellI (mpGet (mpPut _ [D] [3, 0] 1) [p.v]) 0 = 3
    rw [get_put hL hd]
    split
    · exact .inr rfl
    · left
      unfold mpGet
      simp [cellI]
theorem tg_in {p : Pt} {D q : Int} {t : Ft} (h : TgI p D t) (hv : 1 ≤ p.v ∧ p.v ≤ 1024) (hD : 1 ≤ D ∧ D ≤ 1024) (hq : 0 ≤ q ∧ q ≤ 7) :
    inR t 1 false D q = .tup [.a (i_ p.v), .a (i_ (p.p 0)), .a (i_ 0)] ∧ inR t 1 true D q = .tup [.a (i_ D), .a (i_ (p.p q.toNat)), .a (i_ 0)] ∧ inR t 1 true 0 q = .tup [.a (i_ p.v), .a (i_ (p.p q.toNat)), .a (i_ 0)] := by
  have hr : ¬ ((1 : Int) < 0 ∨ (t.n : Int) ≤ 1) := by rw [h.n]; decide
  have hw : ¬ bits .and .i64 ((vPo t p.v).fdiv (2 ^ min (1 : Int).toNat IntKind.i64.bits)) 1 = 0 := by
    rcases h.pw with e | e <;> (rw [e]; decide)
  refine ⟨in_yes (by omega) hr (z := p.v) ((if_pos (.inl rfl)).trans h.pv) hw (h.pp 0), in_yes (by omega) hr (z := D) (if_neg (by rintro (h9 | h9); (· cases h9); omega)) ?_ (h.pp _), in_yes (by omega) hr (z := p.v) ((if_pos (.inr rfl)).trans h.pv) hw (h.pp _)⟩
  rw [h.po]; decide

end Go.Proofs.Ytnkmfkongmijfaa
