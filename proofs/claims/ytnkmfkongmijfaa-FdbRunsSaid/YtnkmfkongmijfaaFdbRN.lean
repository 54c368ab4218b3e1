/-
  Contracts of functions, and plain facts about them, that a claim of this seat uses.
-/
import Derived.Test.YtnkmfkongmijfaaSx
import Derived.Test.YtnkmfkongmijfaaFdbRM
import Derived.Test.YtnkmfkongmijfaaFdbW
import Derived.Test.YtnkmfkongmijfaaFdbX
import Derived.Test.YtnkmfkongmijfaaFdbY
import Derived.Test.YtnkmfkongmijfaaFdbZ
import Derived.Test.YtnkmfkongmijfaaProg
namespace Go.Proofs.Ytnkmfkongmijfaa
open Go.Sx
set_option linter.unusedVariables false
set_option linter.unusedSimpArgs false
set_option maxRecDepth 100000

/-! fdb: how the reference's table stands to the program's, and each step. -/
theorem fst_f {k : List Int} (p : KV → Bool) : ∀ {l : List KV}, (∀ r, r ∈ l → r.1 = k → p r = true) → fst_ k (l.filter p) = fst_ k l
  | [], _ => rfl
  | r :: l, h => by
    have ih := fst_f p (k := k) (l := l) (fun s hs => h s (List.mem_cons_of_mem _ hs))
    by_cases hk : r.1 = k
    · rw [fil_yes (h r List.mem_cons_self hk), fst_yes hk, fst_yes hk]
    · rw [fst_no hk]
      cases hp : p r with
      | true => rw [fil_yes hp, fst_no hk, ih]
      | false => rw [fil_no hp, ih]
theorem get_cons (r : MRow) (L : List MRow) (k : List Int) : mpGet (r :: L) k = if r.k = k then some r.v else mpGet L k := by
  unfold mpGet
  by_cases h9 : r.k = k
  · rw [List.find?_cons_of_pos (by exact decide_eq_true h9), if_pos h9]; rfl
  · rw [List.find?_cons_of_neg (by rw [decide_eq_false h9]; decide), if_neg h9]
theorem get_map {k v : List Int} (k2 : List Int) : ∀ {L : List MRow}, mpGet (L.map fun r => if r.k = k then { r with v := v } else r) k2 = if k2 = k ∧ mpHas L k = true then some v else mpGet L k2
  | [] => by simp [mpGet, mpHas]
  | r :: L => by
    rw [List.map_cons, get_cons, get_map k2, get_cons]
    have e : mpHas (r :: L) k = (decide (r.k = k) || mpHas L k) := rfl
    rw [e]
    by_cases h1 : r.k = k
    · rw [if_pos h1, decide_eq_true h1]
      dsimp only
      by_cases h2 : k2 = k
      · subst h2
        rw [if_pos h1, if_pos ⟨rfl, rfl⟩]
      · rw [if_neg (fun h => h2 (h.symm.trans h1)), if_neg (fun h => h2 h.1), if_neg (fun h => h2 h.1), if_neg (fun h => h2 (h.symm.trans h1))]
    · rw [if_neg h1, decide_eq_false h1, Bool.false_or]
      by_cases h2 : r.k = k2
      · rw [if_pos h2, if_pos h2, if_neg]
        rintro ⟨h3, _⟩
        exact h1 (h2.trans h3)
      · rw [if_neg h2, if_neg h2]
theorem get_app {k v : List Int} {c : Nat} (k2 : List Int) : ∀ {L : List MRow}, (∀ r, r ∈ L → r.k ≠ k) → mpGet (L ++ [⟨k, v, c⟩]) k2 = if k2 = k then some v else mpGet L k2
  | [], _ => by
    show mpGet [⟨k, v, c⟩] k2 = _
    rw [get_cons]
    by_cases h : k2 = k
    · rw [if_pos h, if_pos h.symm]
    · rw [if_neg h, if_neg (fun h9 => h h9.symm)]
  | r :: L, h => by
    have ih := get_app (v := v) (c := c) k2 (L := L) (fun s hs => h s (List.mem_cons_of_mem _ hs))
    show mpGet (r :: (L ++ [⟨k, v, c⟩])) k2 = _
    rw [get_cons, ih, get_cons]
    by_cases h1 : r.k = k2
    · rw [if_pos h1, if_pos h1, if_neg (fun h9 => h r List.mem_cons_self (h1.trans h9))]
    · rw [if_neg h1, if_neg h1]
/-- what was put is there -/
theorem get_any {L : List MRow} {k v : List Int} {c : Nat} (k2 : List Int) : mpGet (mpPut L k v c) k2 = if k2 = k then some v else mpGet L k2 := by
  unfold mpPut
  cases h : mpHas L k with
  | true =>
    dsimp only
    rw [get_map, h]
    by_cases h2 : k2 = k
    · rw [if_pos h2, if_pos ⟨h2, rfl⟩]
    · rw [if_neg h2, if_neg (fun h9 => h2 h9.1)]
  | false =>
    dsimp only
    refine get_app k2 fun r hr hk => ?_
    have : mpHas L k = true := mpHas_iff.2 ⟨r, hr, hk⟩
    rw [h] at this; cases this
def two (n : Nat) : Int := ((2 ^ n : Nat) : Int)
/-- a row of the program's map: where, whether for good, when -/
structure RowOK (n : Nat) (v : List Int) : Prop where
  ex : ∃ p b s : Int, v = [p, b, s] ∧ (b = 0 ∨ b = 1) ∧ 0 < p ∧ p < two n ∧ (b = 0 → ∃ a : Int, 0 ≤ a ∧ a < n ∧ p = bitI a)
def ptOf (t : Ft) (r : Nat) : Pt := ⟨t.pv r, t.pp 0 r, t.pp 1 r, t.pp 2 r, t.pp 3 r, t.pp 4 r, t.pp 5 r, t.pp 6 r, t.pp 7 r⟩
/-- how they stand to each other -/
structure Rel (t : Ft) (x : RT) : Prop where
  n : x.n = (t.n : Int)
  n8 : 1 ≤ t.n ∧ t.n ≤ 8
  room : x.room = t.room
  rm : 0 ≤ t.room ∧ t.room ≤ 4096
  pl : (x.p.len : Int) = t.n
  vl : ∀ k : Int, fst_ [k] (vcL x.v) = mpGet t.vl [k]
  vb : ∀ k : Int, (0 ≤ vPo t k ∧ vPo t k < two t.n) ∧ (0 ≤ vBa t k ∧ vBa t k < two t.n)
  pt : ∀ r, r < t.n → pcR x.p r = ptOf t r
  al : (acL x.a).Perm (kvs t.al)
  ok : MpOK AT.ks t.al t.ca
  po : ∀ r, r ∈ t.al → RowOK t.n r.v
  le : (t.al.length : Int) ≤ t.room
theorem acl_len (a : AC) : (acL a).length = a.len := rows_len _ _
theorem kvs_len (L : List MRow) : (kvs L).length = L.length := List.length_map _
theorem rel_len {t : Ft} {x : RT} (h : Rel t x) : x.a.len = t.al.length := by
  rw [← acl_len, h.al.length_eq, kvs_len]
theorem two_le {n : Nat} (h : n ≤ 8) : two n ≤ 256 ∧ 1 ≤ two n := ⟨(all_ok h).2.1, (all_ok h).2.2⟩
theorem vl_eq {t : Ft} {x : RT} (h : Rel t x) (k : Int) : vlP x.v k = vPo t k ∧ vlB x.v k = vBa t k := by
  unfold vlP vlB vPo vBa
  rw [h.vl k]; exact ⟨rfl, rfl⟩
/-! SetVlan -/
theorem rel_sv {t : Ft} {x : RT} (h : Rel t x) {k po ba : Int} (hb : -9223372036854775808 ≤ ba ∧ ba ≤ 9223372036854775807) :
    (svNo x.n k po ba → svE t k ⟨po, ba⟩ = 1 ∧ svT t k ⟨po, ba⟩ = t) ∧ (¬ svNo x.n k po ba → svE t k ⟨po, ba⟩ = 0 ∧ ∀ y : VC, vcL y = svL k po ba (vcL x.v) → Rel (svT t k ⟨po, ba⟩) { x with v := y }) := by
  have hi := sv_iff (t := t) (x := k) (po := po) (ba := ba) h.n8.2 hb
  rw [← h.n] at hi
  refine ⟨fun hn => ⟨if_pos (hi.2 hn), if_pos (hi.2 hn)⟩, fun hn => ?_⟩
  have hb2 : ¬ svBad t k ⟨po, ba⟩ := fun h9 => hn (hi.1 h9)
  refine ⟨if_neg hb2, fun y hy => ?_⟩
  have e : svT t k ⟨po, ba⟩ = { t with vl := mpPut t.vl [k] [po, ba] t.cv, cv := mpTick t.vl [k] t.cv } := if_neg hb2
  rw [e]
  have hg : ∀ q : Int, mpGet (mpPut t.vl [k] [po, ba] t.cv) [q] = if q = k then some [po, ba] else mpGet t.vl [q] := fun q => by
    rw [get_any]
    by_cases hq : q = k
    · rw [if_pos hq, if_pos (by rw [hq])]
    · rw [if_neg hq, if_neg (fun h9 => hq (by injection h9))]
  refine ⟨h.n, h.n8, h.room, h.rm, h.pl, fun q => ?_, fun q => ?_, h.pt, h.al, h.ok, h.po, h.le⟩
  · show fst_ [q] (vcL y) = _
    rw [hy, hg]
    unfold svL
    by_cases hq : q = k
    · rw [if_pos hq, fst_yes (by rw [hq])]
    · rw [if_neg hq, fst_no (fun h9 => hq (by injection h9 with h9; exact h9.symm)), fst_f, h.vl]
      intro r _ hr
      exact ne_t (by rw [hr]; exact fun h9 => hq (by injection h9))
  · unfold vPo vBa
    show (0 ≤ cellI (mpGet (mpPut t.vl [k] [po, ba] t.cv) [q]) 0 ∧ cellI (mpGet (mpPut t.vl [k] [po, ba] t.cv) [q]) 0 < two t.n) ∧ (0 ≤ cellI (mpGet (mpPut t.vl [k] [po, ba] t.cv) [q]) 1 ∧ cellI (mpGet (mpPut t.vl [k] [po, ba] t.cv) [q]) 1 < two t.n)
    rw [hg]
    by_cases hq : q = k
    · rw [if_pos hq]
      show (0 ≤ po ∧ po < two t.n) ∧ (0 ≤ ba ∧ ba < two t.n)
      have h1 := (all_ok h.n8.2).1
      unfold svNo at hn
      rw [h.n, h1] at hn
      unfold two
      omega
    · rw [if_neg hq]; exact h.vb q
/-! SetPort -/
theorem rel_st {t : Ft} {x : RT} (h : Rel t x) (a : Int) (p : Pt) :
    stE t a p = rspE x.n a p ∧ (¬ rspE x.n a p = 0 → stT t a p = t) ∧ (rspE x.n a p = 0 → ∀ y : PC, POK x.p a p y → Rel (stT t a p) { x with p := y }) := by
  have e : stE t a p = rspE x.n a p := by unfold stE rspE; rw [h.n]
  refine ⟨e, fun hn => if_neg (by rw [e]; exact hn), fun hn y hy => ?_⟩
  have e2 : stT t a p = putPt t a p := if_pos (by rw [e]; exact hn)
  rw [e2]
  refine ⟨h.n, h.n8, h.room, h.rm, (congrArg (fun z : Nat => (z : Int)) hy.l).trans h.pl, h.vl, h.vb, fun r hr => ?_, h.al, h.ok, h.po, h.le⟩
  have hr : r < t.n := hr
  have hl := h.pl
  rw [show pcR ({ x with p := y } : RT).p r = pcR y r from rfl, hy.e r (by omega), h.pt r hr]
  by_cases hq : r = a.toNat
  · rw [if_pos hq]; unfold ptOf putPt; simp only [if_pos hq]; rfl
  · rw [if_neg hq]; unfold ptOf putPt; simp only [if_neg hq]
/-! addresses -/
theorem rel_get {t : Ft} {x : RT} (h : Rel t x) (k : List Int) : fst_ k (acL x.a) = mpGet t.al k := fst_get h.al h.ok.ap k
theorem rel_al {t : Ft} {x : RT} (h : Rel t x) {L : List MRow} {c : Nat} {y : AC} (hp : (acL y).Perm (kvs L)) (hk : MpOK AT.ks L c) (hr : ∀ r, r ∈ L → RowOK t.n r.v) (hl : (L.length : Int) ≤ t.room) : Rel { t with al := L, ca := c } { x with a := y } :=
  ⟨h.n, h.n8, h.room, h.rm, h.pl, h.vl, h.vb, h.pt, hp, hk, hr, hl⟩
theorem rel_find {t : Ft} {x : RT} (h : Rel t x) (k : Int) (m : Mc) : (fdV (x, k, m) < 0 ∧ aGet t (mkPl k m) = none) ∨ (0 ≤ fdV (x, k, m) ∧ aGet t (mkPl k m) = some (acR x.a (fdV (x, k, m)).toNat).2) := by
  have e : aGet t (mkPl k m) = fst_ (mcK k m) (acL x.a) := (rel_get h (mcK k m)).symm
  rw [e]
  exact ac_find
theorem rel_known {t : Ft} {x : RT} (h : Rel t x) (k : Int) (m : Mc) : fdV (x, k, m) < 0 ↔ known t (mkPl k m) = false := by
  unfold known
  rcases rel_find h k m with ⟨h1, h2⟩ | ⟨h1, h2⟩
  · rw [h2]; exact ⟨fun _ => rfl, fun _ => h1⟩
  · rw [h2]; exact ⟨fun h9 => by omega, fun h9 => by cases h9⟩
theorem put_row {n : Nat} {L : List MRow} {k v : List Int} {c : Nat} (h : ∀ r, r ∈ L → RowOK n r.v) (hv : RowOK n v) : ∀ r, r ∈ mpPut L k v c → RowOK n r.v := fun r hr => by
  rcases put_mem hr with ⟨_, h1⟩ | ⟨h1, _⟩
  · rw [h1]; exact hv
  · exact h r h1
theorem rel_put {t : Ft} {x : RT} (h : Rel t x) {k v : List Int} {y : AC} (hy : acL y = (acL x.a).filter (neB k) ++ [(k, v)]) (hk : KeyW AT.ks k) (hv : RowOK t.n v) (hf : ¬ (mpHas t.al k = false ∧ t.room ≤ (t.al.length : Int))) : Rel { t with al := mpPut t.al k v t.ca, ca := mpTick t.al k t.ca } { x with a := y } := by
  refine rel_al h ?_ (h.ok.put hk) (put_row h.po hv) (put_len hf h.le)
  rw [hy]
  exact ((h.al.filter _).append_right _).trans (put_perm h.ok.ap).symm
theorem rel_del {t : Ft} {x : RT} (h : Rel t x) {p : MRow → Bool} {q : KV → Bool} {y : AC} (hy : acL y = (acL x.a).filter q) (hpq : ∀ r, r ∈ t.al → q (r.k, r.v) = p r) : Rel { t with al := t.al.filter p } { x with a := y } := by
  refine rel_al h ?_ (fl_ok h.ok p) (fun r hr => h.po r (List.mem_filter.1 hr).1) (Int.le_trans (Int.ofNat_le.2 (List.length_filter_le _ _)) h.le)
  rw [hy, kv_fil hpq]
  exact h.al.filter _
/-! SetPlace -/
theorem rel_sp {t : Ft} {x : RT} (h : Rel t x) {k b : Int} {m : Mc} (hw : PlW (mkPl k m)) :
    spE t (mkPl k m) b = rplE (x, k, m, b) ∧ (¬ rplE (x, k, m, b) = 0 → spT t (mkPl k m) b = t) ∧ (rplE (x, k, m, b) = 0 → ∀ y : AC, acL y = putL ⟨mkPl k m, b, true, 0⟩ (acL x.a) → Rel (spT t (mkPl k m) b) { x with a := y }) := by
  obtain ⟨a1, a2, a3⟩ := all_ok h.n8.2
  have hk := rel_known h k m
  have hl := rel_len h
  by_cases c1 : k < 1 ∨ 4094 < k ∨ b < 0 ∨ allN x.n < b
  · have e := rpl_1 (x := (x, k, m, b)) c1
    have hb : spBad t (mkPl k m) b := by
      unfold spBad vidP
      show ¬ (1 ≤ k ∧ k ≤ 4094) ∨ b < 0 ∨ _
      rw [h.n, a1] at c1
      omega
    obtain ⟨e1, e2⟩ := sp_1 hb
    rw [e, e1]
    exact ⟨rfl, fun _ => e2, fun h9 => by cases h9⟩
  have hb : ¬ spBad t (mkPl k m) b := by
    unfold spBad vidP
    show ¬ (¬ (1 ≤ k ∧ k ≤ 4094) ∨ b < 0 ∨ _)
    rw [h.n, a1] at c1
    omega
  have hb2 : b < two t.n := by
    rw [h.n, a1] at c1
    unfold two
    omega
  by_cases c2 : 0 < b ∧ fdV (x, k, m) < 0 ∧ x.room ≤ (x.a.len : Int)
  · have e := rpl_30 (x := (x, k, m, b)) c1 c2
    have hf : spFull t (mkPl k m) := ⟨hk.1 c2.2.1, by rw [← hl, ← h.room]; exact c2.2.2⟩
    obtain ⟨e1, e2⟩ := sp_30 hb (by omega) hf
    rw [e, e1]
    exact ⟨rfl, fun _ => e2, fun h9 => by cases h9⟩
  have e := rpl_0 (x := (x, k, m, b)) c1 c2
  by_cases c3 : b = 0
  · obtain ⟨e1, e2⟩ := sp_del hb c3
    rw [e, e1]
    refine ⟨rfl, fun h9 => absurd rfl h9, fun _ y hy => ?_⟩
    rw [e2]
    refine rel_del h (q := neB (mcK k m)) ?_ (fun r _ => rfl)
    rw [hy]
    unfold putL
    rw [if_neg (by dsimp only; omega), List.append_nil]; rfl
  · have hf : ¬ spFull t (mkPl k m) := fun h9 => c2 ⟨by omega, hk.2 h9.1, by rw [hl, h.room]; exact h9.2⟩
    obtain ⟨e1, e2⟩ := sp_put hb c3 hf
    rw [e, e1]
    refine ⟨rfl, fun h9 => absurd rfl h9, fun _ y hy => ?_⟩
    rw [e2]
    refine rel_put h ?_ hw ⟨b, 1, 0, rfl, .inr rfl, by omega, hb2, fun h9 => by cases h9⟩ (full_has hf)
    rw [hy]
    unfold putL
    rw [if_pos (by dsimp only; omega)]; rfl
/-! Learn -/
theorem and_mask8 {a : Int} (h : 0 ≤ a ∧ a ≤ 255) : bits .and .u8 a 1 = a % 2 := by
  show IntKind.u8.wrap ((BitVec.ofInt 8 a &&& BitVec.ofInt 8 1).toNat : Int) = _
  have h1 : (BitVec.ofInt 8 1).toNat = 1 := by decide
  have h2 : (BitVec.ofInt 8 a).toNat = a.toNat := by rw [BitVec.toNat_ofInt]; omega
  rw [BitVec.toNat_and, h1, h2, Nat.and_one_is_mod, wu8]
  omega
theorem grp_iff {k : Int} {m : Mc} (h0 : 0 ≤ m.m0 ∧ m.m0 ≤ 255) : grp (mkPl k m) ↔ Int.tmod m.m0 2 = 1 := by
  unfold grp
  show bits .and .u8 m.m0 1 = 1 ↔ _
  rw [Int.tmod_eq_emod_of_nonneg h0.1]
  have e : bits .and .u8 m.m0 1 = m.m0 % 2 := and_mask8 h0
  rw [e]
theorem rel_lr {t : Ft} {x : RT} (h : Rel t x) {k a w : Int} {m : Mc} (hw : PlW (mkPl k m)) :
    lrE t (mkPl k m) a = (rlrNo (x, k, m, a, w)).getD 0 ∧ (rlrNo (x, k, m, a, w) ≠ none → lrT t (mkPl k m) a w = t) ∧ (rlrNo (x, k, m, a, w) = none → ∀ y : AC, acL y = putL ⟨mkPl k m, 2 ^ a.toNat, false, w⟩ (acL x.a) → Rel (lrT t (mkPl k m) a w) { x with a := y }) := by
  have hk := rel_known h k m
  have hl := rel_len h
  have hg := grp_iff (k := k) (m := m) hw.m.1
  have done : ∀ z : Int, rlrNo (x, k, m, a, w) = some z → lrNo t (mkPl k m) a = some z → lrE t (mkPl k m) a = (rlrNo (x, k, m, a, w)).getD 0 ∧ (rlrNo (x, k, m, a, w) ≠ none → lrT t (mkPl k m) a w = t) ∧ (rlrNo (x, k, m, a, w) = none → ∀ y : AC, acL y = putL ⟨mkPl k m, 2 ^ a.toNat, false, w⟩ (acL x.a) → Rel (lrT t (mkPl k m) a w) { x with a := y }) := fun z h1 h2 => by
    obtain ⟨e1, e2⟩ := lr_no (now := w) h2
    rw [e1, h1]
    exact ⟨rfl, fun _ => e2, fun h9 => by cases h9⟩
  by_cases c1 : k < 1 ∨ 4094 < k
  · exact done 1 (rlr_1 (x := (x, k, m, a, w)) c1) (lr_1 (by unfold vidP; show ¬ (1 ≤ k ∧ k ≤ 4094); omega))
  have v1 : vidP (mkPl k m).vid := by unfold vidP; show 1 ≤ k ∧ k ≤ 4094; omega
  by_cases c2 : a < 0 ∨ x.n ≤ a
  · exact done 40 (rlr_40 (x := (x, k, m, a, w)) c1 c2) (lr_40 v1 (by rw [h.n] at c2; exact c2))
  have v2 : ¬ (a < 0 ∨ (t.n : Int) ≤ a) := by rw [h.n] at c2; exact c2
  by_cases c3 : Int.tmod m.m0 2 = 1
  · exact done 23 (rlr_23 (x := (x, k, m, a, w)) c1 c2 c3) (lr_23 v1 v2 (hg.2 c3))
  have v3 : ¬ grp (mkPl k m) := fun h9 => c3 (hg.1 h9)
  have hs : (0 ≤ fdV (x, k, m) ∧ x.a.st (fdV (x, k, m)).toNat = true) ↔ isSt t (mkPl k m) = true := by
    unfold isSt
    rcases rel_find h k m with ⟨h1, h2⟩ | ⟨h1, h2⟩
    · rw [h2]
      exact ⟨fun h9 => by omega, fun h9 => by cases h9⟩
    · rw [h2]
      show _ ↔ decide (bI (x.a.st _) = 1) = true
      cases x.a.st (fdV (x, k, m)).toNat
      · exact ⟨fun h9 => absurd h9.2 (by decide), fun h9 => absurd h9 (by decide)⟩
      · exact ⟨fun _ => rfl, fun _ => ⟨h1, rfl⟩⟩
  by_cases c4 : isSt t (mkPl k m) = true
  · obtain ⟨s1, s2⟩ := hs.2 c4
    exact done 0 (rlr_0 (x := (x, k, m, a, w)) c1 c2 c3 s1 s2) (lr_0 v1 v2 v3 c4)
  have v4 : isSt t (mkPl k m) = false := by cases hq : isSt t (mkPl k m) <;> simp_all
  have c5 : fdV (x, k, m) < 0 ∨ x.a.st (fdV (x, k, m)).toNat = false := by
    by_cases h8 : fdV (x, k, m) < 0
    · exact .inl h8
    · right
      cases hq : x.a.st (fdV (x, k, m)).toNat with
      | false => rfl
      | true => exact absurd (hs.1 ⟨by omega, hq⟩) c4
  by_cases c6 : fdV (x, k, m) < 0 ∧ x.room ≤ (x.a.len : Int)
  · exact done 30 (rlr_30 (x := (x, k, m, a, w)) c1 c2 c3 c6.1 c6.2) (lr_30 v1 v2 v3 v4 ⟨hk.1 c6.1, by rw [← hl, ← h.room]; exact c6.2⟩)
  have v6 : ¬ (known t (mkPl k m) = false ∧ t.room ≤ (t.al.length : Int)) := fun h9 => c6 ⟨hk.2 h9.1, by rw [hl, h.room]; exact h9.2⟩
  obtain ⟨e1, e2⟩ := lr_yes (now := w) (lr_go v1 v2 v3 v4 v6)
  have e := rlr_n (x := (x, k, m, a, w)) c1 c2 c3 c5 c6
  rw [e, e1]
  refine ⟨rfl, fun h9 => absurd rfl h9, fun _ y hy => ?_⟩
  rw [e2]
  have h8 : 0 ≤ a ∧ a < 8 := by have := h.n8; omega
  have b1 := bit_pow h8
  have b2 := bit_rg h8
  have b3 : bitI a < two t.n := by
    rw [b1]
    unfold two
    have : (2 : Int) ^ a.toNat = ((2 ^ a.toNat : Nat) : Int) := by simp
    rw [this]
    exact Int.ofNat_lt.2 (Nat.pow_lt_pow_right (by decide) (by omega))
  refine rel_put h ?_ hw ⟨bitI a, 0, w, rfl, .inl rfl, b2.1, b3, fun _ => ⟨a, by omega, by omega, rfl⟩⟩ (known_has t (mkPl k m) ▸ v6)
  rw [hy]
  unfold putL
  dsimp only
  rw [b1] at b2
  rw [if_pos b2.1, b1]; rfl
/-! Age, Flush -/
theorem rel_ag {t : Ft} {x : RT} (h : Rel t x) (s : Int) {y : AC} (hy : acL y = (acL x.a).filter (agK s)) : Rel (agT t s) { x with a := y } ∧ (x.a.len : Int) - y.len = (t.al.length : Int) - (agL t s).length := by
  have h1 : Rel (agT t s) { x with a := y } := rel_del h hy (fun r _ => ag_old s r)
  refine ⟨h1, ?_⟩
  rw [rel_len h, show y.len = (agL t s).length from rel_len h1]
theorem rel_fl {t : Ft} {x : RT} (h : Rel t x) (a : Int) {y : AC} (hy : acL y = (acL x.a).filter (flK x.n a)) : Rel (flT t a) { x with a := y } := by
  by_cases ha : a < 0 ∨ (t.n : Int) ≤ a
  · have e : flT t a = t := if_pos ha
    rw [e]
    have e2 : (acL x.a).filter (flK x.n a) = acL x.a := List.filter_eq_self.2 fun r _ => by
      unfold flK
      rw [h.n]
      rcases ha with ha | ha
      · rw [decide_eq_true ha]; simp
      · rw [decide_eq_true ha]; simp
    rw [e2] at hy
    exact rel_al h (by rw [hy]; exact h.al) h.ok h.po h.le
  · have e : flT t a = { t with al := flL t a } := if_neg ha
    rw [e]
    refine rel_del h hy (fun r hr => ?_)
    obtain ⟨p, b, s, e1, e2, e3, e4, e5⟩ := (h.po r hr).ex
    have t8 := two_le h.n8.2
    unfold flK hitB
    rw [h.n, decide_eq_false (show ¬ a < 0 by omega), decide_eq_false (show ¬ (t.n : Int) ≤ a by omega), e1]
    show (decide (b = 1) || (false || (false || !hasB p a))) = !(!decide (b = 1) && decide (p = bitI a))
    rcases e2 with rfl | rfl
    · obtain ⟨j, j1, j2, rfl⟩ := e5 rfl
      have a8 : 0 ≤ a ∧ a < 8 := by have := h.n8; omega
      have j8 : 0 ≤ j ∧ j < 8 := by have := h.n8; omega
      obtain ⟨n, rfl⟩ := Int.eq_ofNat_of_zero_le a8.1
      rw [hs_bit ⟨by omega, by omega⟩, ← bv_lsb ⟨by omega, by omega⟩, bit_lsb j8]
      have e9 : decide (bitI j = bitI (n : Int)) = decide ((n : Int) = j) := by
        rw [decide_eq_decide]
        constructor
        · intro h9
          have h7 := congrArg Int.toNat h9
          rw [bit_nat j8, bit_nat a8] at h7
          have := (Nat.pow_right_inj (by decide)).1 h7
          omega
        · intro h9; rw [h9]
      rw [e9]
      simp
    · simp
/-! In -/
theorem rel_in {t : Ft} {x : RT} (h : Rel t x) (a : Int) (g : Bool) (v q : Int) : inV t a g v q = riV x a g v q ∧ inP t a g v q = riP x a g v q ∧ inE t a g v q = riE x a g v q := by
  have e : inE t a g v q = riE x a g v q ∧ (inE t a g v q = 0 → inX t a g v = riX x a g v ∧ t.pp (inQ g q).toNat a.toNat = (pcR x.p a.toNat).p (inQ g q).toNat) := by
    unfold inE riE
    by_cases c1 : v < 0 ∨ 4094 < v ∨ q < 0 ∨ 7 < q
    · rw [if_pos c1, if_pos c1]; exact ⟨rfl, fun h9 => by cases h9⟩
    rw [if_neg c1, if_neg c1]
    by_cases c2 : a < 0 ∨ x.n ≤ a
    · rw [if_pos c2, if_pos (by rw [h.n] at c2; exact c2)]; exact ⟨rfl, fun h9 => by cases h9⟩
    have c3 : ¬ (a < 0 ∨ (t.n : Int) ≤ a) := by rw [h.n] at c2; exact c2
    rw [if_neg c2, if_neg c3]
    have hp := h.pt a.toNat (by omega)
    have eX : inX t a g v = riX x a g v := by
      unfold inX riX
      have h0 : x.p.c0 a.toNat = t.pv a.toNat := congrArg Pt.v hp
      rw [h0]
    have a8 : 0 ≤ a ∧ a < 8 := by have := h.n8; omega
    have t8 := two_le h.n8.2
    obtain ⟨n, rfl⟩ := Int.eq_ofNat_of_zero_le a8.1
    have hv := (h.vb (riX x n g v)).1
    have e2 : bits .and .i64 ((vPo t (inX t n g v)).fdiv (2 ^ min (n : Int).toNat IntKind.i64.bits)) 1 = 0 ↔ hasB (vlP x.v (riX x n g v)) n = false := by
      rw [(vl_eq h _).1, eX, hs_bit ⟨hv.1, by omega⟩, show ∀ z : Int, bits .and .i64 z 1 = z % 2 from fun z => and_mask z 1 (by decide), Int.toNat_natCast, show min n IntKind.i64.bits = n from Nat.min_eq_left (by show n ≤ 64; omega)]
      obtain ⟨z, hz⟩ := Int.eq_ofNat_of_zero_le hv.1
      rw [hz, Int.toNat_natCast, Nat.testBit_eq_decide_div_mod_eq, show (2 : Int) ^ n = ((2 ^ n : Nat) : Int) by simp, Int.fdiv_eq_ediv_of_nonneg _ (Int.natCast_nonneg _), ← Int.natCast_ediv, decide_eq_false_iff_not]
      generalize z / 2 ^ n = y
      omega
    have eP : t.pp (inQ g q).toNat n = (pcR x.p n).p (inQ g q).toNat := by
      rw [Int.toNat_natCast] at hp
      rw [hp]
      have hq : 0 ≤ inQ g q ∧ inQ g q ≤ 7 := by unfold inQ; split <;> omega
      rcases (by omega : inQ g q = 0 ∨ inQ g q = 1 ∨ inQ g q = 2 ∨ inQ g q = 3 ∨ inQ g q = 4 ∨ inQ g q = 5 ∨ inQ g q = 6 ∨ inQ g q = 7) with h8 | h8 | h8 | h8 | h8 | h8 | h8 | h8 <;> rw [h8] <;> rfl
    by_cases c4 : hasB (vlP x.v (riX x n g v)) n = false
    · rw [if_pos (e2.2 c4), if_pos c4]; exact ⟨rfl, fun h9 => by cases h9⟩
    · rw [if_neg (fun h9 => c4 (e2.1 h9)), if_neg c4]; exact ⟨rfl, fun _ => ⟨eX, by rw [Int.toNat_natCast]; exact eP⟩⟩
  obtain ⟨e1, e2⟩ := e
  unfold inV riV inP riP
  rw [← e1]
  by_cases c : inE t a g v q = 0
  · obtain ⟨e3, e4⟩ := e2 c
    rw [if_pos c, if_pos c, if_pos c, if_pos c]; exact ⟨e3, e4, rfl⟩
  · rw [if_neg c, if_neg c, if_neg c, if_neg c]; exact ⟨rfl, rfl, rfl⟩
/-! Out -/
theorem roX_nat {x : OX} {n M : Nat} (h : ∀ k, k < n → okB x k = M.testBit k) : ∀ k, k ≤ n → roX x k = ((M % 2 ^ k : Nat) : Int)
  | 0, _ => by simp [roX, Nat.mod_one]
  | k + 1, hk => by
    have ih := roX_nat h k (by omega)
    unfold roX
    rw [h k (by omega), ih, mod_p2]
    cases M.testBit k <;> simp
theorem rel_ot {t : Ft} {x : RT} (h : Rel t x) (a k : Int) (m : Mc) : otP t a (mkPl k m) = rouP (x, a, k, m) ∧ otB t a (mkPl k m) = rouB (x, a, k, m) := by
  unfold otB rouB
  have e : otP t a (mkPl k m) = rouP (x, a, k, m) ∧ (¬ (a < 0 ∨ (t.n : Int) ≤ a) → 0 ≤ otP t a (mkPl k m) ∧ otP t a (mkPl k m) < 256) := by
    unfold otP rouP
    dsimp only
    rw [h.n]
    by_cases c : a < 0 ∨ (t.n : Int) ≤ a
    · rw [if_pos c, if_pos c]; exact ⟨rfl, fun h9 => absurd c h9⟩
    rw [if_neg c, if_neg c]
    have a8 : 0 ≤ a ∧ a < 8 := by have := h.n8; omega
    have t8 := two_le h.n8.2
    have hv := (h.vb k).1
    have hk : vPo t (mkPl k m).vid = vPo t k := rfl
    have hve := (vl_eq h k).1
    have main : ∀ z : Int, (0 ≤ z ∧ z < two t.n) → (∀ j, (bv z).getLsbD j = (hasB (vlP x.v k) j && (decide (fdV (x, k, m) < 0) || hasB (x.a.po (fdV (x, k, m)).toNat) j))) → bits .andNot .i64 z (bitI a) = roX (x, a, k, m) (t.n : Int).toNat ∧ 0 ≤ bits .andNot .i64 z (bitI a) ∧ bits .andNot .i64 z (bitI a) < 256 := fun z hz hb => by
      have hs : Sm z := sm_of ⟨hz.1, by omega⟩
      have hM := and_lt (y := ~~~ bv (bitI a)) hs
      rw [not_val hs, Int.toNat_natCast]
      refine ⟨?_, Int.natCast_nonneg _, by omega⟩
      have hle : (bv z &&& ~~~ bv (bitI a)).toNat ≤ (bv z).toNat := by rw [BitVec.toNat_and]; exact Nat.and_le_left
      rw [bv_nat ⟨hz.1, by omega⟩] at hle
      have h2n : two t.n = ((2 ^ t.n : Nat) : Int) := rfl
      rw [roX_nat (n := t.n) (M := (bv z &&& ~~~ bv (bitI a)).toNat) ?_ t.n (Nat.le_refl _), Nat.mod_eq_of_lt (by omega)]
      intro j hj
      have e1 : (bv z &&& ~~~ bv (bitI a)).toNat.testBit j = (bv z &&& ~~~ bv (bitI a)).getLsbD j := rfl
      have j64 : j < 64 := by have := h.n8; omega
      rw [e1, BitVec.getLsbD_and, BitVec.getLsbD_not, hb, bit_lsb a8]
      unfold okB
      dsimp only
      rw [decide_eq_true j64, Bool.true_and, Bool.and_comm]
    rcases rel_find h k m with ⟨h1, h2⟩ | ⟨h1, h2⟩
    · rw [h2]
      refine ⟨(main _ (by rw [hk]; exact hv) fun j => ?_).1, fun _ => (main _ (by rw [hk]; exact hv) fun j => ?_).2⟩
      all_goals
        rw [hk, bv_lsb ⟨hv.1, by omega⟩, decide_eq_true h1, hve, hs_bit ⟨hv.1, by omega⟩]
        simp
    · rw [h2]
      obtain ⟨r, hr, hrk, hrv⟩ := get_mem h2
      obtain ⟨p, b, s, e1, e2, e3, e4, e5⟩ := (h.po r hr).ex
      have hp : x.a.po (fdV (x, k, m)).toNat = p := by
        rw [e1] at hrv
        injection hrv with hrv
        exact hrv.symm
      have hz : bits .and .i64 (vPo t (mkPl k m).vid) ((acR x.a (fdV (x, k, m)).toNat).2.getD 0 0) = (((vPo t k).toNat &&& p.toNat : Nat) : Int) := by
        show bits .and .i64 (vPo t k) (x.a.po _) = _
        rw [hp]
        exact and_nat ⟨hv.1, by omega⟩ ⟨by omega, by omega⟩
      have hzl : (vPo t k).toNat &&& p.toNat ≤ (vPo t k).toNat := Nat.and_le_left
      dsimp only
      rw [hz]
      refine ⟨(main _ ⟨Int.natCast_nonneg _, by omega⟩ fun j => ?_).1, fun _ => (main _ ⟨Int.natCast_nonneg _, by omega⟩ fun j => ?_).2⟩
      all_goals
        rw [bv_lsb ⟨Int.natCast_nonneg _, by omega⟩, Int.toNat_natCast, Nat.testBit_and, decide_eq_false (by omega), hve, hp, hs_bit ⟨hv.1, by omega⟩, hs_bit ⟨by omega, by omega⟩]
        simp
  refine ⟨e.1, ?_⟩
  dsimp only
  rw [h.n]
  by_cases c : a < 0 ∨ (t.n : Int) ≤ a
  · rw [if_pos c, if_pos c]
  · rw [if_neg c, if_neg c, (vl_eq h k).2]
    have t8 := two_le h.n8.2
    have hv := (h.vb k).2
    have e3 := e.2 c
    have e4 := e.1
    unfold rouP at e4
    dsimp only at e4
    rw [h.n, if_neg c] at e4
    rw [← e4]
    exact (boX_and e3 ⟨hv.1, by omega⟩).symm
/-! New -/
theorem rel_new {n room : Int} (hn : nOK n room) {p : PC} (hp : PNW n.toNat p) (v : VC) (a : AC) (hv : v.len = 0) (ha : a.len = 0) : Rel (ft0 n room) ⟨n, room, v, p, a⟩ := by
  obtain ⟨h1, h2⟩ := nOK_out hn
  have e : (ft0 n room).n = n.toNat := rfl
  refine ⟨by rw [e]; show n = _; omega, by rw [e]; omega, rfl, h2, by rw [e]; exact congrArg _ hp.l, fun k => ?_, fun k => ?_, fun r hr => ?_, ?_, mpOK_nil _, fun r hr => absurd hr List.not_mem_nil, h2.1⟩
  · show fst_ [k] (rows (vcR v) v.len 0) = none
    rw [hv]; rfl
  · have := two_le (n := (ft0 n room).n) (by rw [e]; omega)
    show (0 ≤ (0 : Int) ∧ (0 : Int) < _) ∧ (0 ≤ (0 : Int) ∧ (0 : Int) < _)
    omega
  · rw [hp.e r hr]; rfl
  · show (rows (acR a) a.len 0).Perm []
    rw [ha]; exact List.Perm.refl _

end Go.Proofs.Ytnkmfkongmijfaa
