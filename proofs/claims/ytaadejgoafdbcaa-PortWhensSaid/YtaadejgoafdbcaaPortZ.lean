/-
  Contracts of functions, and plain facts about them, that a claim of this seat uses.
-/
import Derived.Test.YtaadejgoafdbcaaSx
import Derived.Test.YtaadejgoafdbcaaPortY
import Derived.Test.YtaadejgoafdbcaaProg
namespace Go.Proofs.Ytaadejgoafdbcaa
open Go.Sx
set_option linter.unusedVariables false
set_option linter.unusedSimpArgs false
set_option maxRecDepth 100000

/-! PortWhens: the walk. -/
theorem wh_p0 {p : Pt} {now : Int} (h : p.wait = false) : whP p now = p := by
  unfold whP
  split
  · rfl
  · rw [atG_no (sw_no h)]; rfl
theorem nx_p1 {p : Pt} {now : Int} (h : p.wait = false) : nxP p now = ptQ p (popL p.q (nxO p now)) := by
  unfold nxP; rw [atG_no (sw_no h)]; rfl
noncomputable def whS0 : ESpec Try.prog := obN fn14 69 ptK (.s1 (.int .i64)) ptR ptP ptR_ok (fun _ => rfl) (fun p now _ => cxWhB p now) (fun p now => p.wait = false ∧ nxOK now) (fun p now => [.one (.tup [.a (i_ (whV p now).1), .a (b_ (whV p now).2)]) (ptP p)]) (fun _ m => nilG 0 5 m) (fun _ m => ptRen 0 m) (fun _ _ _ => rfl) (fun p now hn h hi => by
  have := wh_runs p now hn.2 h hi
  rw [wh_p0 hn.1] at this
  exact this)
noncomputable def nxS0 : ESpec Try.prog := obN fn11 69 ptK (.s1 (.int .i64)) ptR ptP ptR_ok (fun _ => rfl) (fun p now _ => cxNxB p now) (fun p now => p.wait = false ∧ nxOK now) (fun p now => [.one (nxV p now) (ptP (ptQ p (popL p.q (nxO p now))))]) (fun _ m => nilG 0 5 m) (fun _ m => ptRen 0 m) (fun _ _ _ => rfl) (fun p now hn h hi => by
  have := nx_runs p now hn.2 h hi
  rw [nx_p1 hn.1] at this
  exact this)
noncomputable def pwM (l : GL) (st : SD) (p : Pt) : Mem := [roG l, roS st, some ⟨true, .flat [i_ l.base, i_ l.cyc, .slc 0 2 0 l.len l.cap]⟩, some ⟨true, .obj 69 (ptP p) (boxI ptK)⟩]
def pwC (l : GL) (y : CL) : Prop := (CS l.len l y ∧ chk l = 0) ∧ l.cyc ≤ 16777216
/-- all that is put -/
structure VX where
  y : CL
  q : Ln
  i : Nat
def vInv (l : GL) (st : SD) (x : VX) : Prop := pwC l x.y ∧ (x.i ≤ st.len ∧ st.len ≤ 20) ∧ SZ x.q ∧ (sumN x.q 8 ≤ x.i ∧ ∀ c, c < 8 → x.q.room c = 100)
noncomputable abbrev laV (l : GL) (st : SD) : LA where
  ι := VX
  inv := vInv l st
  T := fun x => ⟨203, [(2, .one (.a (.ptr 2 0))), (5, .one (.a (.ptr 3 0))), (7, int_ .i64 (sumN x.q 8)), (57, .one (.a (.slc 1 9 0 st.len st.cap))), (58, int_ .i64 st.len), (59, int_ .i64 x.i)], pwM l st (opP l x.y x.q)⟩
  μ := fun x => st.len - x.i
  ren := fun S => [0, 1, S.ix 2, S.ix 5]
structure LX where
  y : CL
  q : Ln
  now : Int
  k : Nat
  N : Int
def lInv (l : GL) (x : LX) : Prop := pwC l x.y ∧ SZ x.q ∧ Pot l x.k x.q x.now ∧ (x.k ≤ 8000 ∧ 0 ≤ x.now ∧ x.now ≤ 65535 + 33580032 * x.k) ∧ sumN x.q 8 ≤ x.N ∧ x.N ≤ 20
def lS (x : LX) : Slots := [(2, .one (.a (.ptr 2 0))), (5, .one (.a (.ptr 3 0))), (7, int_ .i64 x.N), (11, int_ .i64 x.now), (12, int_ .i64 (x.N - sumN x.q 8)), (13, int_ .i64 x.k)]
noncomputable abbrev laL (l : GL) (st : SD) : LA where
  ι := LX
  inv := lInv l
  T := fun x => ⟨203, lS x, pwM l st (opP l x.y x.q)⟩
  μ := fun x => 8000 - x.k
  ren := fun S => [0, 1, S.ix 2, S.ix 5]
/-- a look: what When says -/
structure AX where
  x : LX
  at_ : Int
def aInv (l : GL) (n : Int) (a : AX) : Prop := lInv l a.x ∧ (a.x.k : Int) = n ∧ a.x.k < 8000 ∧ ((a.at_ = a.x.now ∧ ∃ j, j < 8 ∧ 0 < a.x.q.n j ∧ fit l a.x.q a.x.now j) ∨ (a.x.now < a.at_ ∧ (∀ j, j < 8 → 0 < a.x.q.n j → ¬ fit l a.x.q a.x.now j ∧ (nb l a.x.now j → a.at_ ≤ cand l a.x.now j)) ∧ ∃ j, j < 8 ∧ 0 < a.x.q.n j ∧ nb l a.x.now j ∧ a.at_ = cand l a.x.now j))
noncomputable abbrev laA31 (l : GL) (st : SD) (n : Int) : LA where
  ι := AX
  inv := aInv l n
  T := fun a => ⟨203, lS a.x ++ [(14, int_ .i64 a.at_)], pwM l st (opP l a.x.y a.x.q)⟩
  μ := fun _ => 0
  ren := fun S => [0, 1, S.ix 2, S.ix 5]
structure EX where
  y : CL
  q : Ln
  now : Int
  N : Int
def eInv (l : GL) (x : EX) : Prop := pwC l x.y ∧ (∀ c, c < 8 → 0 < x.q.n c → ∀ T, ¬ Op l c T 12800) ∧ (0 ≤ x.now ∧ x.now ≤ 549755813888) ∧ sumN x.q 8 ≤ x.N ∧ x.N ≤ 20
def eS (x : EX) : Slots := [(2, .one (.a (.ptr 2 0))), (5, .one (.a (.ptr 3 0))), (7, int_ .i64 x.N), (11, int_ .i64 x.now), (12, int_ .i64 (x.N - sumN x.q 8))]
noncomputable abbrev laE (l : GL) (st : SD) : LA where
  ι := EX
  inv := eInv l
  T := fun x => ⟨203, eS x, pwM l st (opP l x.y x.q)⟩
  μ := fun _ => 0
  ren := fun S => [0, 1, S.ix 2, S.ix 5]
structure CX where
  x : EX
  c : Nat
noncomputable abbrev laC40 (l : GL) (st : SD) : LA where
  ι := CX
  inv := fun a => eInv l a.x ∧ a.c ≤ 8
  T := fun a => ⟨203, eS a.x ++ [(22, int_ .i64 a.c)], pwM l st (opP l a.x.y a.x.q)⟩
  μ := fun a => 8 - a.c
  ren := fun S => [0, 1, S.ix 2, S.ix 5]
structure JX where
  a : CX
  at_ : Int
  j : Nat
noncomputable abbrev laJ45 (l : GL) (st : SD) (n : Int) : LA where
  ι := JX
  inv := fun b => ((eInv l b.a.x ∧ b.a.c < 8) ∧ 0 < b.a.x.q.n b.a.c ∧ (b.a.c : Int) = n) ∧ (0 ≤ b.at_ ∧ b.at_ ≤ 549755813888 + 33600000 * b.j) ∧ b.j ≤ 2 * l.len + 2
  T := fun b => ⟨203, eS b.a.x ++ [(22, int_ .i64 b.a.c), (23, int_ .i64 b.at_), (24, int_ .i64 b.j)], pwM l st (opP l b.a.x.y b.a.x.q)⟩
  μ := fun b => 2 * l.len + 2 - b.j
  ren := fun S => [0, 1, S.ix 2, S.ix 5]
theorem vInv_out {l : GL} {st : SD} {x : VX} (h : vInv l st x) : pwC l x.y ∧ (x.i ≤ st.len ∧ st.len ≤ 20) ∧ SZ x.q ∧ (sumN x.q 8 ≤ x.i ∧ ∀ c, c < 8 → x.q.room c = 100) := h
theorem lInv_out {l : GL} {x : LX} (h : lInv l x) : pwC l x.y ∧ SZ x.q ∧ Pot l x.k x.q x.now ∧ (x.k ≤ 8000 ∧ 0 ≤ x.now ∧ x.now ≤ 65535 + 33580032 * x.k) ∧ sumN x.q 8 ≤ x.N ∧ x.N ≤ 20 := h
theorem eInv_out {l : GL} {x : EX} (h : eInv l x) : pwC l x.y ∧ (∀ c, c < 8 → 0 < x.q.n c → ∀ T, ¬ Op l c T 12800) ∧ (0 ≤ x.now ∧ x.now ≤ 549755813888) ∧ sumN x.q 8 ≤ x.N ∧ x.N ≤ 20 := h
theorem n_sum (q : Ln) {c : Nat} (hc : c < 8) : (q.n c : Int) ≤ sumN q 8 := by
  rw [sum_8]
  rcases (by omega : c = 0 ∨ c = 1 ∨ c = 2 ∨ c = 3 ∨ c = 4 ∨ c = 5 ∨ c = 6 ∨ c = 7) with rfl | rfl | rfl | rfl | rfl | rfl | rfl | rfl <;> omega
theorem v_new {l : GL} {st : SD} {y : CL} (h : pwC l y) (hl : st.len ≤ 20) : vInv l st ⟨y, new0 (eightC 100), 0⟩ :=
  ⟨h, ⟨Nat.zero_le _, hl⟩, fun c _ r hr => absurd hr (Nat.not_lt_zero r), by show sumN (new0 (eightC 100)) 8 ≤ ((0 : Nat) : Int); rw [sum_new]; exact Int.le_refl _, fun c hc => by
    rcases (by omega : c = 0 ∨ c = 1 ∨ c = 2 ∨ c = 3 ∨ c = 4 ∨ c = 5 ∨ c = 6 ∨ c = 7) with rfl | rfl | rfl | rfl | rfl | rfl | rfl | rfl <;> rfl⟩
theorem v_skip {l : GL} {st : SD} {x : VX} (h : vInv l st x) (hi : x.i < st.len) : vInv l st ⟨x.y, x.q, x.i + 1⟩ := by
  obtain ⟨a, ⟨b1, b2⟩, c, d1, d2⟩ := vInv_out h
  exact ⟨a, ⟨hi, b2⟩, c, by show sumN x.q 8 ≤ ((x.i + 1 : Nat) : Int); omega, d2⟩
theorem v_cnt {l : GL} {st : SD} {x : VX} (h : vInv l st x) (hi : x.i < st.len) : ((x.i + 1 : Nat) : Int) = IntKind.i64.wrap ((x.i : Int) + 1) := by
  have := (vInv_out h).2.1.2
  rw [w64' (by omega) (by omega)]; omega
theorem v_mu {st : SD} {x : VX} (hi : x.i < st.len) : st.len - (x.i + 1) < st.len - x.i := by omega
theorem v_put {l : GL} {st : SD} {x : VX} {c s id : Int} (h : vInv l st x) (hi : x.i < st.len) (hc : ¬ c < 0 ∧ ¬ 7 < c) (hs : ¬ s < 0 ∧ ¬ 1600 < s) : putE x.q c ⟨id, s, false⟩ = 0 := by
  obtain ⟨a, ⟨b1, b2⟩, d, e1, e2⟩ := vInv_out h
  refine put_0 (by show ¬ (s < 0 ∨ 1600 < s); omega) (by omega) ?_
  unfold full
  rw [e2 c.toNat (by omega)]
  have := n_sum x.q (c := c.toNat) (by omega)
  rintro (h9 | ⟨h9, _⟩)
  · omega
  · cases h9
theorem v_sum {l : GL} {st : SD} {x : VX} {c s id : Int} (h : vInv l st x) (hi : x.i < st.len) (he : putE x.q c ⟨id, s, false⟩ = 0) : sumN (putL x.q c ⟨id, s, false⟩) 8 = IntKind.i64.wrap (sumN x.q 8 + 1) := by
  obtain ⟨a, ⟨b1, b2⟩, d, e1, e2⟩ := vInv_out h
  have := sum_pos x.q
  rw [sum_put he, w64' (by omega) (by omega)]
theorem v_next {l : GL} {st : SD} {x : VX} {c s id : Int} (h : vInv l st x) (hi : x.i < st.len) (hs : ¬ s < 0 ∧ ¬ 1600 < s) (he : putE x.q c ⟨id, s, false⟩ = 0) : vInv l st ⟨x.y, putL x.q c ⟨id, s, false⟩, x.i + 1⟩ := by
  obtain ⟨a, ⟨b1, b2⟩, d, e1, e2⟩ := vInv_out h
  refine ⟨a, ⟨hi, b2⟩, fun k hk r hr => ?_, by show sumN (putL x.q c ⟨id, s, false⟩) 8 ≤ ((x.i + 1 : Nat) : Int); rw [sum_put he]; omega, e2⟩
  have hr : r < (putL x.q c ⟨id, s, false⟩).n k := hr
  show 0 ≤ (putL x.q c ⟨id, s, false⟩).sz k r ∧ (putL x.q c ⟨id, s, false⟩).sz k r ≤ 1600
  rw [put_n he] at hr
  rw [put_sz he]
  by_cases hk2 : k = c.toNat
  · subst hk2
    rw [up_at] at hr ⊢
    show 0 ≤ (if r < x.q.n c.toNat then x.q.sz c.toNat r else s) ∧ (if r < x.q.n c.toNat then x.q.sz c.toNat r else s) ≤ 1600
    split
    · exact d _ hk r (by assumption)
    · omega
  · rw [up_ne _ _ hk2] at hr ⊢
    exact d k hk r hr
theorem l_new {l : GL} {st : SD} {x : VX} (h : vInv l st x) : lInv l ⟨x.y, x.q, bits .and .i64 l.base 65535, 0, sumN x.q 8⟩ := by
  obtain ⟨a, ⟨b1, b2⟩, d, e1, e2⟩ := vInv_out h
  have := and65 l.base
  refine ⟨a, d, pot_0 a.1.2 (show sumN x.q 8 ≤ 20 by omega), ⟨Nat.zero_le _, ?_, ?_⟩, Int.le_refl _, by show sumN x.q 8 ≤ 20; omega⟩
  · show 0 ≤ bits .and .i64 l.base 65535
    omega
  · show bits .and .i64 l.base 65535 ≤ 65535 + 33580032 * ((0 : Nat) : Int)
    omega
theorem l_ok {l : GL} {x : LX} (h : lInv l x) : nxOK x.now ∧ x.now ≤ 268640321535 := by
  obtain ⟨a, b, c, ⟨d1, d2, d3⟩, e1, e2⟩ := lInv_out h
  unfold nxOK; omega
theorem a_of {l : GL} {x : LX} (h : lInv l x) (hk : x.k < 8000) (hv : (whV (opP l x.y x.q) x.now).2 = true) : aInv l (x.k : Int) ⟨x, (whV (opP l x.y x.q) x.now).1⟩ := by
  obtain ⟨a, b, c, ⟨d1, d2, d3⟩, e1, e2⟩ := lInv_out h
  exact ⟨h, rfl, hk, (wh_spec a.1.1 a.1.2 (by omega) b).1 hv⟩
theorem a_bd {l : GL} {n : Int} {x : AX} (h : aInv l n x) : x.x.now ≤ x.at_ ∧ x.at_ ≤ x.x.now + 12800 + 33554432 := by
  obtain ⟨hl, h1, h2, h3⟩ := h
  obtain ⟨a, b, c, ⟨d1, d2, d3⟩, e1, e2⟩ := lInv_out hl
  rcases h3 with ⟨h3, _⟩ | ⟨h3, h4, j, j1, j2, j3, j4⟩
  · omega
  · obtain ⟨⟨l1, l2⟩, _, _, _⟩ := not_fit a.1.2 (by omega) j1 (b j j1 0 j2) (h4 j j1 j2).1
    obtain ⟨n1, n2, _⟩ := next_some j3
    have hs := b j j1 0 j2
    have := a.2
    unfold cand at j4
    omega
theorem a_ok {l : GL} {n : Int} {x : AX} (h : aInv l n x) : nxOK x.at_ := by
  have h1 := a_bd h
  have h2 := l_ok h.1
  have := (lInv_out h.1).2.2.2.1
  unfold nxOK; omega
theorem pk_no {q : Ln} {a : A8} (h : ∀ j, j < 8 → ¬ fits q a j) : pk q a = none := by
  cases hp : pk q a with
  | none => rfl
  | some k => obtain ⟨h1, h2⟩ := pk_ft (m := 8) hp; exact absurd h2 (h k h1)
theorem fits_fit {l : GL} {y : CL} {q : Ln} {t : Int} {j : Nat} (hy : CS l.len l y) (hj : j < 8) : fits q (lf8 (cp l y) 0 false t) j ↔ 0 < q.n j ∧ fit l q t j := by
  unfold fits fit
  rw [lf8_f hj, lfV_no, cp_left hy]
theorem nx_eq {l : GL} {y : CL} {q : Ln} {t : Int} : nxO (opP l y q) t = pk q (lf8 (cp l y) 0 false t) := nx_pk rfl
theorem a_early {l : GL} {n : Int} {x : AX} (h : aInv l n x) (hlt : x.x.now + 1 < x.at_) : nxO (opP l x.x.y x.x.q) (x.at_ - 1) = none := by
  have hb := a_bd h
  have hk := l_ok h.1
  obtain ⟨hl, h1, h2, h3⟩ := h
  obtain ⟨a, b, c, ⟨d1, d2, d3⟩, e1, e2⟩ := lInv_out hl
  rw [nx_eq]
  refine pk_no fun j hj hf => ?_
  obtain ⟨f1, f2⟩ := (fits_fit a.1.1 hj).1 hf
  rcases h3 with ⟨h3, _⟩ | ⟨h3, h4, _⟩
  · omega
  · exact early a.1.2 (by omega) hj (b j hj 0 f1) (h4 j hj f1).1 (h4 j hj f1).2 (by omega) (by omega) (by omega) f2
theorem l_stay {l : GL} {n : Int} {x : AX} (h : aInv l n x) (ho : nxO (opP l x.x.y x.x.q) x.at_ = none) : lInv l ⟨x.x.y, x.x.q, x.at_, x.x.k + 1, x.x.N⟩ := by
  have hb := a_bd h
  have hk := l_ok h.1
  obtain ⟨hl, h1, h2, h3⟩ := h
  obtain ⟨a, b, c, ⟨d1, d2, d3⟩, e1, e2⟩ := lInv_out hl
  have nf : ∀ j, j < 8 → 0 < x.x.q.n j → ¬ fit l x.x.q x.at_ j := fun j hj hp hf => by
    rw [nx_eq] at ho
    obtain ⟨k, hk, _⟩ := pk_up (l := x.x.q) (a := lf8 (cp l x.x.y) 0 false x.at_) (m := 8) hj ((fits_fit a.1.1 hj).2 ⟨hp, hf⟩)
    rw [show pkFrom x.x.q (lf8 (cp l x.x.y) 0 false x.at_) 8 = none from ho] at hk
    cases hk
  rcases h3 with ⟨h3, j, j1, j2, j3⟩ | ⟨h3, h4, h5⟩
  · exact absurd (by rw [h3]; exact j3) (nf j j1 j2)
  · exact ⟨a, b, pot_look a.1.2 (by omega) a.2 b c h3 h4 h5 nf, ⟨h2, by show 0 ≤ x.at_; omega, by show x.at_ ≤ 65535 + 33580032 * ((x.x.k + 1 : Nat) : Int); omega⟩, e1, e2⟩
theorem l_go {l : GL} {n : Int} {x : AX} {j : Nat} (h : aInv l n x) (ho : nxO (opP l x.x.y x.x.q) x.at_ = some j) : (j < 8 ∧ 8 * x.x.q.sz j 0 ≤ leftV l x.at_ j) ∧ (0 ≤ x.x.q.sz j 0 ∧ x.x.q.sz j 0 ≤ 1600) ∧ sumN (popL x.x.q (some j)) 8 = sumN x.x.q 8 - 1 ∧ lInv l ⟨x.x.y, popL x.x.q (some j), x.at_ + 8 * x.x.q.sz j 0, x.x.k + 1, x.x.N⟩ := by
  have hb := a_bd h
  have hk := l_ok h.1
  obtain ⟨hl, h1, h2, h3⟩ := h
  obtain ⟨a, b, c, ⟨d1, d2, d3⟩, e1, e2⟩ := lInv_out hl
  rw [nx_eq] at ho
  obtain ⟨j1, j2⟩ := pk_ft (m := 8) ho
  obtain ⟨f1, f2⟩ := (fits_fit a.1.1 j1).1 j2
  have hs := b j j1 0 f1
  have hsum : sumN (popL x.x.q (some j)) 8 = sumN x.x.q 8 - 1 := by
    have := sum_pop (l := x.x.q) (a := lf8 (cp l x.x.y) 0 false x.at_) (by rw [ho]; rfl)
    rw [ho] at this; exact this
  have hq : ∀ c, c < 8 → 0 < (popL x.x.q (some j)).n c → 0 < x.x.q.n c := fun c hc hp => by
    have hp : 0 < up x.x.q.n j (x.x.q.n j - 1) c := hp
    by_cases hcj : c = j
    · subst hcj; exact f1
    · rwa [up_ne _ _ hcj] at hp
  refine ⟨⟨j1, f2⟩, hs, hsum, a, fun k hk r hr => ?_, pot_go a.1.2 c hsum hq, ⟨h2, by show 0 ≤ x.at_ + 8 * x.x.q.sz j 0; omega, by show x.at_ + 8 * x.x.q.sz j 0 ≤ 65535 + 33580032 * ((x.x.k + 1 : Nat) : Int); omega⟩, by show sumN (popL x.x.q (some j)) 8 ≤ x.x.N; omega, e2⟩
  have hr : r < up x.x.q.n j (x.x.q.n j - 1) k := hr
  show 0 ≤ up x.x.q.sz j (fun r => x.x.q.sz j (r + 1)) k r ∧ up x.x.q.sz j (fun r => x.x.q.sz j (r + 1)) k r ≤ 1600
  by_cases hkj : k = j
  · subst hkj
    rw [up_at] at hr ⊢
    exact b k hk (r + 1) (by omega)
  · rw [up_ne _ _ hkj] at hr ⊢
    exact b k hk r hr
theorem e_of {l : GL} {x : LX} (h : lInv l x) (hk : ¬ (x.k : Int) < 8000) : eInv l ⟨x.y, x.q, x.now, x.N⟩ := by
  have hb := l_ok h
  obtain ⟨a, b, c, ⟨d1, d2, d3⟩, e1, e2⟩ := lInv_out h
  exact ⟨a, fun j hj hp T hT => pot_end a.1.2 c (by omega) (sum_pos _) hj hp hT, ⟨d2, by show x.now ≤ 549755813888; omega⟩, e1, e2⟩
theorem e_of2 {l : GL} {x : LX} (h : lInv l x) (hv : (whV (opP l x.y x.q) x.now).2 = false) : eInv l ⟨x.y, x.q, x.now, x.N⟩ := by
  have hb := l_ok h
  obtain ⟨a, b, c, ⟨d1, d2, d3⟩, e1, e2⟩ := lInv_out h
  have w := (wh_spec a.1.1 a.1.2 (by omega) b).2 hv
  refine ⟨a, fun j hj hp T => ?_, ⟨d2, by show x.now ≤ 549755813888; omega⟩, e1, e2⟩
  obtain ⟨w1, w2⟩ := w j hj hp
  exact never a.1.2 (not_fit a.1.2 (by omega) hj (b j hj 0 hp) w1).2.2.2 hj w2
theorem s_new (n : Int) : sumN (new0 (eightC n)) 8 = 0 := sum_new _
theorem j_sum {q : Ln} {o : Option Nat} (e : o = none) : sumN (popL q o) 8 = sumN q 8 := by rw [e]; rfl
theorem pe_n {q : Ln} {o : Option Nat} (e : o = none) : (popL q o).n = q.n := by rw [e]; rfl
theorem pe_room {q : Ln} {o : Option Nat} (e : o = none) : (popL q o).room = q.room := by rw [e]; rfl
theorem pe_lost {q : Ln} {o : Option Nat} (e : o = none) : (popL q o).lost = q.lost := by rw [e]; rfl
theorem pe_id {q : Ln} {o : Option Nat} (e : o = none) : (popL q o).id = q.id := by rw [e]; rfl
theorem pe_sz {q : Ln} {o : Option Nat} (e : o = none) : (popL q o).sz = q.sz := by rw [e]; rfl
theorem pe_dr {q : Ln} {o : Option Nat} (e : o = none) : (popL q o).dr = q.dr := by rw [e]; rfl
theorem pkB_some {o : Option Nat} (h : pkB o = true) : ∃ j, o = some j := by
  cases o with
  | none => cases h
  | some j => exact ⟨j, rfl⟩
theorem pkB_none {o : Option Nat} (h : pkB o = false) : o = none := by
  cases o with
  | none => rfl
  | some j => cases h
theorem k_cnt {l : GL} {n : Int} {x : AX} (h : aInv l n x) : ((x.x.k + 1 : Nat) : Int) = IntKind.i64.wrap ((x.x.k : Int) + 1) := by
  have := h.2.2.1
  rw [w64' (by omega) (by omega)]; omega
theorem k_mu {l : GL} {x : AX} {z : LX} (h : aInv l (z.k : Int) x) : 8000 - (x.x.k + 1) < 8000 - z.k := by
  have h1 := h.2.1
  have h2 := h.2.2.1
  omega
def jInv (l : GL) (n : Int) (b : JX) : Prop := ((eInv l b.a.x ∧ b.a.c < 8) ∧ 0 < b.a.x.q.n b.a.c ∧ (b.a.c : Int) = n) ∧ (0 ≤ b.at_ ∧ b.at_ ≤ 549755813888 + 33600000 * b.j) ∧ b.j ≤ 2 * l.len + 2
theorem j_at {l : GL} {n : Int} {b : JX} (h : jInv l n b) (hj : b.j < 2 * l.len + 2) (hb : nextB l b.at_ b.a.c = true) : IntKind.i64.wrap (b.at_ + nextV l b.at_ b.a.c) = b.at_ + nextV l b.at_ b.a.c ∧ 0 ≤ nextV l b.at_ b.a.c ∧ nextV l b.at_ b.a.c ≤ 33554432 ∧ ¬ 12800 ≤ leftV l (b.at_ + nextV l b.at_ b.a.c) b.a.c ∧ 0 ≤ leftV l (b.at_ + nextV l b.at_ b.a.c) b.a.c := by
  obtain ⟨⟨⟨he, h1⟩, h2, h3⟩, ⟨h4, h5⟩, h6⟩ := h
  obtain ⟨⟨⟨a1, a2⟩, a3⟩, b1, c1, d1, d2⟩ := eInv_out he
  obtain ⟨n1, n2, _⟩ := next_some hb
  have n64 := (chk_ok a2).n2
  have hin : inR (b.at_ + nextV l b.at_ b.a.c) := by unfold inR; omega
  have hg : gateR (b.a.c : Int) := by unfold gateR; omega
  have hno : ¬ 12800 ≤ leftV l (b.at_ + nextV l b.at_ b.a.c) b.a.c := fun hh => b1 _ h1 h2 _ ((left_iff a2 hin hg (by omega)).1 hh)
  exact ⟨w64' (by omega) (by omega), n1, by omega, hno, (left_not a2 hin hg (by omega) hno).1⟩
theorem j_step {l : GL} {n : Int} {b : JX} (h : jInv l n b) (hj : b.j < 2 * l.len + 2) (hb : nextB l b.at_ b.a.c = true) : jInv l n ⟨b.a, IntKind.i64.wrap (IntKind.i64.wrap (b.at_ + nextV l b.at_ b.a.c) + leftV l (IntKind.i64.wrap (b.at_ + nextV l b.at_ b.a.c)) b.a.c), b.j + 1⟩ := by
  obtain ⟨j1, j2, j3, j4, j5⟩ := j_at h hj hb
  obtain ⟨h0, ⟨h4, h5⟩, h6⟩ := h
  have n64 := (chk_ok (eInv_out h0.1.1).1.1.2).n2
  rw [j1, w64' (by omega) (by omega)]
  exact ⟨h0, ⟨by show 0 ≤ _ + _; omega, by show _ + _ ≤ 549755813888 + 33600000 * ((b.j + 1 : Nat) : Int); omega⟩, hj⟩
theorem j_lt {l : GL} {j : Nat} (hl : l.len ≤ 64) : IntKind.i64.wrap (IntKind.i64.wrap (2 * (l.len : Int)) + 2) = 2 * (l.len : Int) + 2 := by
  rw [w64' (n := 2 * (l.len : Int)) (by omega) (by omega), w64' (by omega) (by omega)]

end Go.Proofs.Ytaadejgoafdbcaa
