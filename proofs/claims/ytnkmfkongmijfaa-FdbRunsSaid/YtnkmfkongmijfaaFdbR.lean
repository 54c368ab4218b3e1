/-
  Contracts of functions, and plain facts about them, that a claim of this seat uses.
-/
import Derived.Test.YtnkmfkongmijfaaSx
import Derived.Test.YtnkmfkongmijfaaFdbQ
import Derived.Test.YtnkmfkongmijfaaProg
namespace Go.Proofs.Ytnkmfkongmijfaa
open Go.Sx
set_option linter.unusedVariables false
set_option linter.unusedSimpArgs false
set_option maxRecDepth 100000

/-! fdb: the law FdbFlush: what was learnt, and a map of where it was. -/
noncomputable def WT : MapT Try.prog := ⟨41, 5, 3, [.u8], true, [some .i64], true, Try.underlying41⟩
theorem WT_ok : MapOK WT where
  law := Maps.int_keyed Try.underlying5
  key := fun l hl => by
    match l, hl with
    | [n], hl =>
      have h1 : (Lit.int .u8 n).wf = true := (Lit.wf_int_iff _ _).2 hl.1
      exact ⟨.int .u8 n, by show keyOf Try.prog 5 (.int .u8 n) = _; simp [keyOf, mapKey, Try.underlying5, h1]⟩
  zero := fun w => by
    show (zeroValue 3).run Try.prog w = .ok (.int .i64 0) w
    exact run_zero (P := Try.prog) (t := 3) (i := _) (z := _) rfl rfl w
  one := ⟨fun _ => rfl, fun _ => rfl⟩
def kb (b : Int) : List Int := [9, 0, b, 0, 0, 0, 0]
def Pf (b : Int) : Pl := ⟨9, 0, b, 0, 0, 0, 0⟩
theorem pf_w {b : Int} (h : 0 ≤ b ∧ b ≤ 255) : PlW (Pf b) := ⟨(by decide : IntKind.i64.min ≤ 9 ∧ 9 ≤ IntKind.i64.max), c0, ⟨h.1, h.2⟩, c0, c0, c0, c0, trivial⟩
inductive F2 {α β : Type} (R : α → β → Prop) : List α → List β → Prop
  | nil : F2 R [] []
  | cons {a b l m} (h : R a b) (t : F2 R l m) : F2 R (a :: l) (b :: m)
/-- an entry of the table, and one of the map -/
def Al (r s : MRow) : Prop := ∃ b k x, r.k = kb b ∧ s.k = [b] ∧ 0 ≤ b ∧ b ≤ 255 ∧ 0 ≤ k ∧ k ≤ 3 ∧ r.v = [bitI k, 0, x] ∧ s.v = [k]
theorem kb_inj {a b : Int} (h : kb a = kb b) : a = b := by injection h with _ h; injection h with _ h; injection h
theorem al_has {L M : List MRow} (h : F2 Al L M) (b : Int) : mpHas L (kb b) = mpHas M [b] := by
  induction h with
  | nil => rfl
  | cons h _ ih =>
    obtain ⟨a, k, x, h1, h2, _⟩ := h
    unfold mpHas at ih ⊢
    rw [List.any_cons, List.any_cons, ih, h1, h2]
    congr 1
    rw [decide_eq_decide]
    exact ⟨fun hh => by rw [kb_inj hh], fun hh => by injection hh with hh; rw [hh]⟩
theorem al_map {L M : List MRow} (h : F2 Al L M) {b k x : Int} (hb : 0 ≤ b ∧ b ≤ 255) (hk : 0 ≤ k ∧ k ≤ 3) : F2 Al (L.map fun r => if r.k = kb b then { r with v := [bitI k, 0, x] } else r) (M.map fun r => if r.k = [b] then { r with v := [k] } else r) := by
  induction h with
  | nil => exact .nil
  | cons h _ ih =>
    obtain ⟨a, q, y, h1, h2, h3, h4, h5, h6, h7, h8⟩ := h
    refine .cons ?_ ih
    dsimp only
    by_cases hh : a = b
    · subst hh
      rw [if_pos h1, if_pos h2]
      exact ⟨a, k, x, h1, h2, h3, h4, hk.1, hk.2, rfl, rfl⟩
    · rw [if_neg (fun h9 => hh (kb_inj (h1.symm.trans h9))), if_neg (fun h9 => hh (by rw [h2] at h9; injection h9))]
      exact ⟨a, q, y, h1, h2, h3, h4, h5, h6, h7, h8⟩
theorem f2_app {α β : Type} {R : α → β → Prop} {a c : List α} {b d : List β} (h : F2 R a b) (h2 : F2 R c d) : F2 R (a ++ c) (b ++ d) := by
  induction h with
  | nil => exact h2
  | cons h _ ih => exact .cons h ih
theorem al_put {L M : List MRow} (h : F2 Al L M) {b k x : Int} (hb : 0 ≤ b ∧ b ≤ 255) (hk : 0 ≤ k ∧ k ≤ 3) (c d : Nat) : F2 Al (mpPut L (kb b) [bitI k, 0, x] c) (mpPut M [b] [k] d) := by
  unfold mpPut
  rw [al_has h b]
  cases mpHas M [b] with
  | true => exact al_map h hb hk
  | false => exact f2_app h (.cons ⟨b, k, x, rfl, rfl, hb.1, hb.2, hk.1, hk.2, rfl, rfl⟩ .nil)
theorem al_get {L M : List MRow} (h : F2 Al L M) {s : MRow} (hs : s ∈ M) : ∃ r, r ∈ L ∧ Al r s := by
  induction h with
  | nil => cases hs
  | cons h _ ih =>
    rcases List.mem_cons.1 hs with rfl | hs
    · exact ⟨_, List.mem_cons_self, h⟩
    · obtain ⟨r, hr, h2⟩ := ih hs
      exact ⟨r, List.mem_cons_of_mem _ hr, h2⟩
theorem al_mem {L M : List MRow} (h : F2 Al L M) {r : MRow} (hr : r ∈ L) : ∃ s, s ∈ M ∧ Al r s := by
  induction h with
  | nil => cases hr
  | cons h _ ih =>
    rcases List.mem_cons.1 hr with rfl | hr
    · exact ⟨_, List.mem_cons_self, h⟩
    · obtain ⟨s, hs, h2⟩ := ih hr
      exact ⟨s, List.mem_cons_of_mem _ hs, h2⟩
theorem bit_inj {a b : Int} (ha : 0 ≤ a ∧ a ≤ 3) (hb : 0 ≤ b ∧ b ≤ 3) : bitI a = bitI b ↔ a = b := by
  rcases (by omega : a = 0 ∨ a = 1 ∨ a = 2 ∨ a = 3) with rfl | rfl | rfl | rfl <;> rcases (by omega : b = 0 ∨ b = 1 ∨ b = 2 ∨ b = 3) with rfl | rfl | rfl | rfl <;> decide
theorem hit_al {r s : MRow} (h : Al r s) {a : Int} (ha : 0 ≤ a ∧ a ≤ 3) : hitB a r = decide (cellI (some s.v) 0 = a) := by
  obtain ⟨b, k, x, h1, h2, h3, h4, h5, h6, h7, h8⟩ := h
  unfold hitB
  rw [h7, h8]
  show (!decide ((0 : Int) = 1) && decide (bitI k = bitI a)) = decide (k = a)
  rw [show decide (bitI k = bitI a) = decide (k = a) from decide_eq_decide.2 (bit_inj ⟨h5, h6⟩ ha)]; rfl
/-- entries that stay -/
def stay (a : Int) (s : MRow) : Bool := !decide (cellI (some s.v) 0 = a)
theorem al_count {L M : List MRow} (h : F2 Al L M) {a : Int} (ha : 0 ≤ a ∧ a ≤ 3) : (L.filter fun r => !hitB a r).length = (M.filter (stay a)).length := by
  induction h with
  | nil => rfl
  | cons h _ ih =>
    have e := hit_al h ha
    rw [List.filter_cons, List.filter_cons, e]
    unfold stay at ih ⊢
    split <;> simp only [List.length_cons, ih]
theorem put_len1 (L : List MRow) (k v : List Int) (c : Nat) : (mpPut L k v c).length ≤ L.length + 1 := by
  unfold mpPut
  split <;> simp
structure FlI (i : Nat) (t : Ft) (w : List MRow) (c : Nat) : Prop where
  n : t.n = 4
  room : t.room = 300
  vl : mpGet t.vl [9] = some [15, 0]
  ok : MpOK AT.ks t.al t.ca
  wk : MpOK WT.ks w c
  le : t.al.length ≤ i
  al : F2 Al t.al w
theorem fl_init : svE (ft0 4 300) 9 ⟨15, 0⟩ = 0 ∧ FlI 0 (svT (ft0 4 300) 9 ⟨15, 0⟩) [] 0 := by
  obtain ⟨h1, h2⟩ := sv_good (t := ft0 4 300) (x := 9) (po := 15) (by decide) (by decide) (by show (15 : Int) < ((2 ^ 4 : Nat) : Int); decide)
  refine ⟨h1, ?_⟩
  rw [h2]
  exact ⟨rfl, rfl, rfl, mpOK_nil _, mpOK_nil _, Nat.le_refl _, .nil⟩
theorem fl_step {i : Nat} {t : Ft} {w : List MRow} {c : Nat} (h : FlI i t w c) (hi : i ≤ 60) {b k x : Int} (hb : 0 ≤ b ∧ b ≤ 255) (hk : 0 ≤ k ∧ k ≤ 3) : lrE t (Pf b) k = 0 ∧ FlI (i + 1) (lrT t (Pf b) k x) (mpPut w [b] [k] c) (mpTick w [b] c) := by
  have hv : vidP (Pf b).vid := by show vidP 9; decide
  have hr : ¬ (k < 0 ∨ (t.n : Int) ≤ k) := by rw [h.n]; omega
  have hg : ¬ grp (Pf b) := by show ¬ bits .and .u8 0 1 = 1; decide
  have hs : isSt t (Pf b) = false := by
    unfold isSt
    cases hg : aGet t (Pf b) with
    | none => rfl
    | some v =>
      obtain ⟨r, hr, h1, h2⟩ := get_mem hg
      obtain ⟨s, _, a, q, y, _, _, _, _, _, _, h7, _⟩ := al_mem h.al hr
      rw [← h2, h7]; rfl
  obtain ⟨e1, e2⟩ := lr_yes (now := x) (lr_go hv hr hg hs (by rintro ⟨_, h9⟩; rw [h.room] at h9; have := h.le; omega))
  rw [e1, e2]
  refine ⟨rfl, h.n, h.room, h.vl, h.ok.put (pf_w hb), h.wk.put ⟨⟨hb.1, hb.2⟩, trivial⟩, ?_, al_put h.al hb hk _ _⟩
  have := put_len1 t.al (plK (Pf b)) [bitI k, 0, x] t.ca
  have := h.le
  show (mpPut t.al _ _ _).length ≤ i + 1
  omega
def nx (k : Int) : Int := bits .and .i64 (IntKind.i64.wrap (k + 1)) 3
theorem fl_out {i : Nat} {t : Ft} {w : List MRow} {c : Nat} (h : FlI i t w c) {a : Int} (ha : 0 ≤ a ∧ a ≤ 3) {s : MRow} (hs : s ∈ w) :
    PlW (Pf (s.k.getD 0 0)) ∧ (0 ≤ cellI (some s.v) 0 ∧ cellI (some s.v) 0 ≤ 3) ∧ (cellI (some s.v) 0 = a → otP (flT t a) (nx (cellI (some s.v) 0)) (Pf (s.k.getD 0 0)) = bits .andNot .i64 15 (bitI (nx (cellI (some s.v) 0)))) ∧ (¬ cellI (some s.v) 0 = a → otP (flT t a) (nx (cellI (some s.v) 0)) (Pf (s.k.getD 0 0)) = bitI (cellI (some s.v) 0)) := by
  obtain ⟨r, hr, hAl⟩ := al_get h.al hs
  obtain ⟨b, k, x, h1, h2, h3, h4, h5, h6, h7, h8⟩ := id hAl
  rw [h2, h8]
  show PlW (Pf b) ∧ (0 ≤ k ∧ k ≤ 3) ∧ (k = a → otP (flT t a) (nx k) (Pf b) = bits .andNot .i64 15 (bitI (nx k))) ∧ (¬ k = a → otP (flT t a) (nx k) (Pf b) = bitI k)
  have e : flT t a = { t with al := flL t a } := if_neg (by rw [h.n]; omega)
  have hn : 0 ≤ nx k ∧ nx k ≤ 3 := by
    unfold nx
    rw [show ∀ n : Int, bits .and .i64 n 3 = n % 4 from fun n => and_mask n 2 (by decide)]
    omega
  have hr2 : ¬ (nx k < 0 ∨ ((flT t a).n : Int) ≤ nx k) := by rw [e]; show ¬ (nx k < 0 ∨ (t.n : Int) ≤ nx k); rw [h.n]; omega
  have hv : vPo (flT t a) (Pf b).vid = 15 := by
    rw [e]
    show cellI (mpGet t.vl [9]) 0 = 15
    rw [h.vl]; rfl
  have hh := hit_al hAl ha
  rw [h8] at hh
  have hh : hitB a r = decide (k = a) := hh
  refine ⟨pf_w ⟨h3, h4⟩, ⟨h5, h6⟩, fun hk => ?_, fun hk => ?_⟩
  · have hg : aGet (flT t a) (Pf b) = none := by
      rw [e]
      refine mpGet_none fun q hq he => ?_
      have hq2 := List.mem_filter.1 hq
      have : q = r := row_eq h.ok hq2.1 hr (.inl (he.trans h1.symm))
      rw [this, hh, decide_eq_true hk] at hq2
      exact absurd hq2.2 (by decide)
    unfold otP
    rw [if_neg hr2, hg, hv]
  · have hg : aGet (flT t a) (Pf b) = some [bitI k, 0, x] := by
      rw [e]
      have hm : r ∈ flL t a := List.mem_filter.2 ⟨hr, by rw [hh, decide_eq_false hk]; rfl⟩
      have := mpGet_some (fl_ok h.ok (fun r => !hitB a r)) hm
      rw [h1, h7] at this
      exact this
    unfold otP
    rw [if_neg hr2, hg, hv]
    show bits .andNot .i64 (bits .and .i64 15 (bitI k)) (bitI (nx k)) = bitI k
    rcases (by omega : k = 0 ∨ k = 1 ∨ k = 2 ∨ k = 3) with rfl | rfl | rfl | rfl <;> decide
theorem fl_len {i : Nat} {t : Ft} {w : List MRow} {c : Nat} (h : FlI i t w c) {a : Int} (ha : 0 ≤ a ∧ a ≤ 3) : (flT t a).al.length = (w.filter (stay a)).length := by
  have e : flT t a = { t with al := flL t a } := if_neg (by rw [h.n]; omega)
  rw [e]; exact al_count h.al ha
/-- what is left to be met -/
theorem left_step {ks : List IntKind} {w : List MRow} {c : Nat} (h : MpOK ks w c) {seen : List MRow} {y : MRow} (hy : y ∈ w) (hs : ∀ s, s ∈ seen → s.b ≠ y.b) (d : MRow → Bool) : ((unmet w (y :: seen)).filter d).length + (if d y = true then 1 else 0) = ((unmet w seen).filter d).length := by
  have hy2 : y ∈ unmet w seen := List.mem_filter.2 ⟨hy, by
    rw [Bool.not_eq_true', List.any_eq_false]
    intro s hss
    simpa using hs s hss⟩
  have hU : MpOK ks (unmet w seen) c := fl_ok h _
  have e : unmet w (y :: seen) = mpDel (unmet w seen) y.k := by
    unfold unmet mpDel
    rw [List.filter_filter]
    refine List.filter_congr fun s hs => ?_
    have h1 : s.k = y.k ↔ y.b = s.b := ⟨fun hh => by rw [row_eq h hs hy (.inl hh)], fun hh => by rw [row_eq h hs hy (.inr hh.symm)]⟩
    rw [List.any_cons]
    by_cases hk : y.b = s.b
    · simp [hk, h1.2 hk]
    · have h9 : ¬ s.k = y.k := fun hh => hk (h1.1 hh)
      simp [hk, h9]
  rw [e]
  have e2 : (mpDel (unmet w seen) y.k).filter d = mpDel ((unmet w seen).filter d) y.k := by
    unfold mpDel
    rw [List.filter_filter, List.filter_filter]
    exact List.filter_congr fun s _ => Bool.and_comm _ _
  rw [e2]
  have hF : MpOK ks ((unmet w seen).filter d) c := fl_ok hU _
  by_cases hd : d y = true
  · rw [if_pos hd]
    exact del_one hF (List.mem_filter.2 ⟨hy2, hd⟩)
  · rw [if_neg hd, Nat.add_zero]
    congr 1
    refine List.filter_eq_self.2 fun s hs => ?_
    have hs2 := List.mem_filter.1 hs
    by_cases hk : s.k = y.k
    · have : s = y := row_eq hU hs2.1 hy2 (.inl hk)
      rw [this] at hs2
      exact absurd hs2.2 hd
    · simp [hk]
theorem left_0 (w : List MRow) : unmet w [] = w := by unfold unmet; simp
theorem left_end {w seen : List MRow} (h : ∀ r, r ∈ w → ∃ s, s ∈ seen ∧ s.b = r.b) : unmet w seen = [] := by
  unfold unmet
  refine List.filter_eq_nil_iff.2 fun r hr => ?_
  obtain ⟨s, hs, he⟩ := h r hr
  have : seen.any (fun s => decide (s.b = r.b)) = true := List.any_eq_true.2 ⟨s, hs, decide_eq_true he⟩
  rw [this]; decide
theorem f2_len {α β : Type} {R : α → β → Prop} {a : List α} {b : List β} (h : F2 R a b) : a.length = b.length := by
  induction h with
  | nil => rfl
  | cons _ _ ih => simp only [List.length_cons, ih]
theorem fl_more {i j : Nat} {t : Ft} {w : List MRow} {c : Nat} (h : FlI i t w c) (hij : i ≤ j) : FlI j t w c := ⟨h.n, h.room, h.vl, h.ok, h.wk, by have := h.le; omega, h.al⟩
theorem sh_n {a : Int} (h : 0 ≤ a ∧ a ≤ 3) : IntKind.i64.wrap (1 * 2 ^ min (IntKind.u64.wrap a).toNat IntKind.i64.bits) = bitI a := by
  rw [wu64' h.1 (by omega)]; rfl
theorem nx_in (k : Int) : 0 ≤ nx k ∧ nx k ≤ 3 := by
  unfold nx
  rw [show ∀ n : Int, bits .and .i64 n 3 = n % 4 from fun n => and_mask n 2 (by decide)]
  omega
theorem wr_nn (a : Int) : 0 ≤ IntKind.u64.wrap a := by rw [wu64]; omega

end Go.Proofs.Ytnkmfkongmijfaa
