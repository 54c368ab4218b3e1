/-
  Contracts of functions, and plain facts about them, that a claim of this seat uses.
-/
import Derived.Test.YtaadejgoafdbcaaSx
import Derived.Test.YtaadejgoafdbcaaPortH
import Derived.Test.YtaadejgoafdbcaaProg
namespace Go.Proofs.Ytaadejgoafdbcaa
open Go.Sx
set_option linter.unusedVariables false
set_option linter.unusedSimpArgs false
set_option maxRecDepth 100000

/-! PortOpen: the sizes of those that wait, class by class. -/
structure SD where
  len : Nat
  cap : Nat
  N : Nat
  k : Nat → Int
  c : Nat → Int
  id : Nat → Int
  sz : Nat → Int
  dr : Nat → Bool
  d : Nat → Int
  b : Nat → Int
  cy : Nat → Int
  sA : Nat → Option Addr
  sN : Nat → Nat
  sK : Nat → Nat
def roS (a : SD) : Option Reg := some ⟨false, .tab a.N [.int .i64 a.k, .int .i64 a.c, .int .i64 a.id, .int .i64 a.sz, .bool a.dr, .int .i64 a.d, .int .i64 a.b, .int .i64 a.cy, .val fun r => .slice (a.sA r) (a.sN r) (a.sK r)]⟩
def Sw (a : SD) : Prop := a.len ≤ a.cap ∧ a.len ≤ a.N ∧ a.cap ≤ 9223372036854775807
theorem gw_of {w : World} {b c : Int} {v : Value} {A : Option Addr} {n cap : Nat} (hb : (Lit.int .i64 b).wf = true) (hc : (Lit.int .i64 c).wf = true) (s : Slc w v [some .i64, some .i64] A n cap) : Gw ⟨b, c, n, cap, n, fun r => intC w A (r * 2 + 0), fun r => intC w A (r * 2 + 1)⟩ :=
  Gw.mk ⟨i64_of hb, i64_of hc, s.le, Nat.le_refl _, s.max, fun i hi => ⟨i64_of (s.wf 0 .i64 rfl i hi), i64_of (s.wf 1 .i64 rfl i hi)⟩⟩
structure HZ where
  c : Nat
  a : Nat → Int
structure H8 where
  q0 : HZ
  q1 : HZ
  q2 : HZ
  q3 : HZ
  q4 : HZ
  q5 : HZ
  q6 : HZ
  q7 : HZ
def hzR (q : HZ) : Option Reg := some ⟨true, .tab q.c [.int .i64 q.a]⟩
structure ZOK (l : Ln) (k : Nat) (q : HZ) : Prop where
  n : l.n k ≤ q.c
  c : q.c ≤ 9223372036854775807
  at_ : ∀ r, r < l.n k → q.a r = l.sz k r
structure HInv (l : Ln) (h : H8) : Prop where
  q0 : ZOK l 0 h.q0
  q1 : ZOK l 1 h.q1
  q2 : ZOK l 2 h.q2
  q3 : ZOK l 3 h.q3
  q4 : ZOK l 4 h.q4
  q5 : ZOK l 5 h.q5
  q6 : ZOK l 6 h.q6
  q7 : ZOK l 7 h.q7
  sz : ∀ k, k < 8 → ∀ r, r < l.n k → 64 ≤ l.sz k r ∧ l.sz k r ≤ 1087
def opP (l : GL) (y : CL) (q : Ln) : Pt := ⟨cp l y, glN, 0, false, q⟩
def hzC (l : Ln) (h : H8) : List SA := [.slc 4 1 0 (l.n 0) h.q0.c, .slc 5 1 0 (l.n 1) h.q1.c, .slc 6 1 0 (l.n 2) h.q2.c, .slc 7 1 0 (l.n 3) h.q3.c, .slc 8 1 0 (l.n 4) h.q4.c, .slc 9 1 0 (l.n 5) h.q5.c, .slc 10 1 0 (l.n 6) h.q6.c, .slc 11 1 0 (l.n 7) h.q7.c]
/-- the memory: the list, the steps, the list's cell, the heads, the port -/
noncomputable def opM (l : GL) (st : SD) (q : Ln) (h : H8) (p : Pt) : Mem := [roG l, roS st, some ⟨true, .flat [i_ l.base, i_ l.cyc, .slc 0 2 0 l.len l.cap]⟩, some ⟨true, .flat (hzC q h)⟩, hzR h.q0, hzR h.q1, hzR h.q2, hzR h.q3, hzR h.q4, hzR h.q5, hzR h.q6, hzR h.q7, some ⟨true, .obj 69 (ptP p) (boxI ptK)⟩]
structure OX where
  y : CL
  q : Ln
  now : Int
  i : Nat
  h : H8
def opS (st : SD) (now : Int) (i : Nat) : Slots := [(8, int_ .i64 now), (38, .one (.a (.slc 1 9 0 st.len st.cap))), (39, int_ .i64 st.len), (40, int_ .i64 i)]
def oInv (l : GL) (st : SD) (x : OX) : Prop := (CS l.len l x.y ∧ x.i ≤ st.len ∧ st.len ≤ 40) ∧ (0 ≤ x.now ∧ x.now ≤ 65535 * x.i) ∧ HInv x.q x.h ∧ (chk l = 0 ∧ ∀ k, k < 8 → x.q.n k ≤ x.i)
theorem oInv_out {l : GL} {st : SD} {x : OX} (h : oInv l st x) : (CS l.len l x.y ∧ x.i ≤ st.len ∧ st.len ≤ 40) ∧ (0 ≤ x.now ∧ x.now ≤ 65535 * x.i) ∧ HInv x.q x.h ∧ (chk l = 0 ∧ ∀ k, k < 8 → x.q.n k ≤ x.i) := h
def hz0 : HZ := ⟨0, fun _ => 0⟩
def h80 : H8 := ⟨hz0, hz0, hz0, hz0, hz0, hz0, hz0, hz0⟩
theorem o_new {l : GL} {st : SD} {y : CL} {n : Int} (hc : CS l.len l y) (hl : st.len ≤ 40) (h0 : chk l = 0) : oInv l st ⟨y, new0 (eightC n), 0, 0, h80⟩ := by
  have key : ∀ k, ZOK (new0 (eightC n)) k hz0 := fun k => ⟨Nat.le_refl _, by decide, fun r hr => absurd hr (Nat.not_lt_zero r)⟩
  exact ⟨⟨hc, Nat.zero_le _, hl⟩, ⟨Int.le_refl _, by show (0 : Int) ≤ 65535 * ((0 : Nat) : Int); omega⟩, ⟨key 0, key 1, key 2, key 3, key 4, key 5, key 6, key 7, fun k _ r hr => absurd hr (Nat.not_lt_zero r)⟩, h0, fun k _ => Nat.le_refl _⟩
theorem pn_bad {l : GL} {a : A8} (h : ¬ (chk l = 0 ∧ roomsOK a)) : ¬ (if chk l = 0 then (1 : Int) else chk l) = 0 := by
  split
  · decide
  · assumption
theorem c8 (v : Int) : bits .and .i64 v 7 = 0 ∨ bits .and .i64 v 7 = 1 ∨ bits .and .i64 v 7 = 2 ∨ bits .and .i64 v 7 = 3 ∨ bits .and .i64 v 7 = 4 ∨ bits .and .i64 v 7 = 5 ∨ bits .and .i64 v 7 = 6 ∨ bits .and .i64 v 7 = 7 := by
  rw [show (7 : Int) = ((2 ^ 3 - 1 : Nat) : Int) from rfl, and_mask v 3 (by decide)]; omega
theorem and1023 (a : Int) : bits .and .i64 a 1023 = a % 1024 := and_mask a 10 (by decide)
theorem and65 (a : Int) : bits .and .i64 a 65535 = a % 65536 := and_mask a 16 (by decide)
theorem z_bd (b : Int) : 64 ≤ IntKind.i64.wrap (64 + bits .and .i64 b 1023) ∧ IntKind.i64.wrap (64 + bits .and .i64 b 1023) ≤ 1087 := by
  rw [and1023, w64' (by omega) (by omega)]; omega
def oZ (z : Int) : It := ⟨0, z, false⟩
theorem p_ne {q : Ln} {k : Nat} {z : Int} {j : Nat} (he : putE q k (oZ z) = 0) (hj : j ≠ k) : (putL q k (oZ z)).n j = q.n j := by rw [put_n he, up_ne _ _ (by rw [Int.toNat_natCast]; exact hj)]
theorem p_at {q : Ln} {k : Nat} {z : Int} (he : putE q k (oZ z) = 0) : (putL q k (oZ z)).n k = q.n k + 1 := by rw [put_n he, Int.toNat_natCast, up_at]
theorem p_no {q : Ln} {k : Int} {z : Int} {j : Nat} (he : ¬ putE q k (oZ z) = 0) : (putL q k (oZ z)).n j = q.n j := by rw [put_n' he]
theorem p_sz {q : Ln} {k : Nat} {z : Int} {j r : Nat} (he : putE q k (oZ z) = 0) : (putL q k (oZ z)).sz j r = if j = k then (if r < q.n k then q.sz k r else z) else q.sz j r := by
  rw [put_sz he, Int.toNat_natCast]; unfold up; split
  · rename_i h; subst h; rfl
  · rfl
theorem zok_ne {q : Ln} {k j : Nat} {z : Int} {a : HZ} (he : putE q k (oZ z) = 0) (hj : j ≠ k) (h : ZOK q j a) : ZOK (putL q k (oZ z)) j a :=
  ⟨by rw [p_ne he hj]; exact h.n, h.c, fun r hr => by rw [p_ne he hj] at hr; rw [p_sz he, if_neg hj]; exact h.at_ r hr⟩
theorem zok_no {q : Ln} {k : Int} {j : Nat} {z : Int} {a : HZ} (he : ¬ putE q k (oZ z) = 0) (h : ZOK q j a) : ZOK (putL q k (oZ z)) j a :=
  ⟨by rw [p_no he]; exact h.n, h.c, fun r hr => by rw [p_no he] at hr; rw [put_sz' he]; exact h.at_ r hr⟩
theorem zok_at {q : Ln} {k : Nat} {z : Int} {a b : HZ} (he : putE q k (oZ z) = 0) (h : ZOK q k a) (h1 : q.n k + 1 ≤ b.c) (h2 : b.c ≤ 9223372036854775807) (h3 : ∀ r, r < q.n k → b.a r = a.a r) (h4 : b.a (q.n k) = z) : ZOK (putL q k (oZ z)) k b :=
  ⟨by rw [p_at he]; exact h1, h2, fun r hr => by
    rw [p_at he] at hr
    rw [p_sz he, if_pos rfl]
    split
    · rename_i h5; rw [h3 r h5]; exact h.at_ r h5
    · rw [show r = q.n k by omega]; exact h4⟩
theorem sz_put {q : Ln} {k : Nat} {z : Int} (he : putE q k (oZ z) = 0) (hz : 64 ≤ z ∧ z ≤ 1087) (h : ∀ k, k < 8 → ∀ r, r < q.n k → 64 ≤ q.sz k r ∧ q.sz k r ≤ 1087) : ∀ j, j < 8 → ∀ r, r < (putL q k (oZ z)).n j → 64 ≤ (putL q k (oZ z)).sz j r ∧ (putL q k (oZ z)).sz j r ≤ 1087 := by
  intro j hj r hr
  rw [p_sz he]
  by_cases hjk : j = k
  · subst hjk
    rw [p_at he] at hr
    rw [if_pos rfl]
    split
    · exact h j hj r (by assumption)
    · exact hz
  · rw [p_ne he hjk] at hr
    rw [if_neg hjk]; exact h j hj r hr
theorem sz_no {q : Ln} {k : Int} {z : Int} (he : ¬ putE q k (oZ z) = 0) (h : ∀ k, k < 8 → ∀ r, r < q.n k → 64 ≤ q.sz k r ∧ q.sz k r ≤ 1087) : ∀ j, j < 8 → ∀ r, r < (putL q k (oZ z)).n j → 64 ≤ (putL q k (oZ z)).sz j r ∧ (putL q k (oZ z)).sz j r ≤ 1087 := by
  intro j hj r hr
  rw [p_no he] at hr
  rw [put_sz' he]; exact h j hj r hr
theorem cnt_i {l : GL} {st : SD} {x : OX} (h : oInv l st x) (hi : x.i < st.len) : ((x.i + 1 : Nat) : Int) = IntKind.i64.wrap ((x.i : Int) + 1) := by
  have := (oInv_out h).1.2.2
  rw [w64' (by omega) (by omega)]; omega
theorem mu_i {st : SD} {u x : OX} (hi : u.i < st.len) (hn : (u.i : Int) = (x.i : Int)) : st.len - (u.i + 1) < st.len - x.i := by omega
theorem now_bd {l : GL} {st : SD} {x : OX} (h : oInv l st x) (hi : x.i < st.len) (d : Int) : 0 ≤ IntKind.i64.wrap (x.now + bits .and .i64 d 65535) ∧ IntKind.i64.wrap (x.now + bits .and .i64 d 65535) ≤ 65535 * (x.i + 1) ∧ IntKind.i64.wrap (x.now + bits .and .i64 d 65535) ≤ 1099511627776 := by
  obtain ⟨⟨a1, a2, a3⟩, ⟨b1, b2⟩, _⟩ := oInv_out h
  rw [and65, w64' (by omega) (by omega)]
  omega
theorem rz_lt {f g : Nat → Int} {n r : Nat} {z : Int} (hr : r < n) : (if r < n then f r else if r < n + 1 then ([z] : List Int).getD (0 + (r - n)) 0 else g r) = f r := if_pos hr
theorem rz_at {f g : Nat → Int} {n : Nat} {z : Int} : (if n < n then f n else if n < n + 1 then ([z] : List Int).getD (0 + (n - n)) 0 else g n) = z := by
  rw [if_neg (Nat.lt_irrefl n), if_pos (by omega), Nat.sub_self]; rfl
theorem o_no {l : GL} {st : SD} {x : OX} {k : Int} {z : Int} (hx : oInv l st x) (hi : x.i < st.len) (he : ¬ putE x.q k (oZ z) = 0) : oInv l st ⟨x.y, putL x.q k (oZ z), x.now, x.i + 1, x.h⟩ := by
  obtain ⟨⟨a1, a2, a3⟩, ⟨b1, b2⟩, c, d, e⟩ := oInv_out hx
  exact ⟨⟨a1, hi, a3⟩, ⟨b1, by show x.now ≤ 65535 * ((x.i + 1 : Nat) : Int); omega⟩, ⟨zok_no he c.q0, zok_no he c.q1, zok_no he c.q2, zok_no he c.q3, zok_no he c.q4, zok_no he c.q5, zok_no he c.q6, zok_no he c.q7, sz_no he c.sz⟩, d, fun k hk => by have := e k hk; show (putL x.q _ _).n k ≤ x.i + 1; rw [p_no he]; omega⟩
theorem o_yes {l : GL} {st : SD} {x : OX} {k : Nat} {z : Int} {h' : H8} (hx : oInv l st x) (hi : x.i < st.len) (he : putE x.q k (oZ z) = 0) (hz : 64 ≤ z ∧ z ≤ 1087) (hh : HInv x.q x.h → (∀ j, j < 8 → ∀ r, r < (putL x.q k (oZ z)).n j → 64 ≤ (putL x.q k (oZ z)).sz j r ∧ (putL x.q k (oZ z)).sz j r ≤ 1087) → HInv (putL x.q k (oZ z)) h') : oInv l st ⟨x.y, putL x.q k (oZ z), x.now, x.i + 1, h'⟩ := by
  obtain ⟨⟨a1, a2, a3⟩, ⟨b1, b2⟩, c, d, e⟩ := oInv_out hx
  refine ⟨⟨a1, hi, a3⟩, ⟨b1, by show x.now ≤ 65535 * ((x.i + 1 : Nat) : Int); omega⟩, hh c (sz_put he hz c.sz), d, fun j hj => ?_⟩
  show (putL x.q k (oZ z)).n j ≤ x.i + 1
  have := e j hj
  by_cases hjk : j = k
  · subst hjk; rw [p_at he]; omega
  · rw [p_ne he hjk]; omega
def hCols : List Col := [.int .i64 (fun _ => 0)]
def hGs (S : St) : List GC := match S.m[S.ix 7]? with
  | some (some ⟨_, .flat (.v (.slice none _ _) :: _)⟩) => [.nil (S.ix 7) 0 1 hCols, .nil (S.ix 7) 1 1 hCols, .nil (S.ix 7) 2 1 hCols, .nil (S.ix 7) 3 1 hCols, .nil (S.ix 7) 4 1 hCols, .nil (S.ix 7) 5 1 hCols, .nil (S.ix 7) 6 1 hCols, .nil (S.ix 7) 7 1 hCols]
  | _ => (match S.t.get 15, S.t.get 14 with
    | some (.one (.a (.v (.bool true)))), some (.one (.a (.v (.int _ n)))) => [.base (S.ix 7) n.toNat]
    | _, _ => [])
def hRen (S : St) : List Nat := [mixO S.m (S.ix 7) 0, mixO S.m (S.ix 7) 1, mixO S.m (S.ix 7) 2, mixO S.m (S.ix 7) 3, mixO S.m (S.ix 7) 4, mixO S.m (S.ix 7) 5, mixO S.m (S.ix 7) 6, mixO S.m (S.ix 7) 7]
noncomputable abbrev laO (l : GL) (st : SD) : LA where
  ι := OX
  inv := oInv l st
  T := fun x => ⟨157, [(2, .one (.a (.ptr 2 0))), (5, .one (.a (.ptr 12 0))), (7, .one (.a (.ptr 3 0)))] ++ opS st x.now x.i, opM l st x.q x.h (opP l x.y x.q)⟩
  μ := fun x => st.len - x.i
  gs := hGs
  ren := fun S => [0, 1, S.ix 2, S.ix 7] ++ hRen S ++ [S.ix 5]
noncomputable def opT (l : GL) (st : SD) (x : OX) (p : Pt) (t : Slots) (m : Mem) : St := ⟨157, [(2, .one (.a (.ptr 2 0))), (5, .one (.a (.ptr 12 0))), (7, .one (.a (.ptr 3 0)))] ++ opS st x.now x.i ++ t, opM l st x.q x.h p ++ m⟩
def itR (i s : Int) (d : Bool) : Option Reg := some ⟨true, .flat [i_ i, i_ s, b_ d]⟩
inductive SX where
  | ok (y : CL)
  | bad (e : Int)
noncomputable abbrev laS (l : GL) (st : SD) : LA where
  ι := SX
  inv := fun x => match x with
    | .ok y => CS l.len l y ∧ chk l = 0
    | .bad e => ¬ e = 0
  T := fun x => match x with
    | .ok y => ⟨157, [(1, .one (.a (.slc 1 9 0 st.len st.cap))), (2, .one (.a (.ptr 2 0))), (5, .one (.a (.ptr 3 0))), (6, int_ .i64 0)], [roG l, roS st, some ⟨true, .flat [i_ l.base, i_ l.cyc, .slc 0 2 0 l.len l.cap]⟩, some ⟨true, .obj 69 (ptP (opP l y (new0 (eightC 30)))) (boxI ptK)⟩]⟩
    | .bad e => ⟨157, [(6, int_ .i64 e)], [roG l, roS st]⟩
  μ := fun _ => 0
  ren := fun S => match S.t.get 5 with
    | some (.one (.a (.ptr _ _))) => [0, 1, S.ix 2, S.ix 5]
    | _ => [0, 1, S.ix 2]
inductive QX where
  | y0 (x : OX) (z : Int)
  | y1 (x : OX) (z : Int)
  | y2 (x : OX) (z : Int)
  | y3 (x : OX) (z : Int)
  | y4 (x : OX) (z : Int)
  | y5 (x : OX) (z : Int)
  | y6 (x : OX) (z : Int)
  | y7 (x : OX) (z : Int)
  | no (x : OX) (z : Int) (c : Int)
noncomputable abbrev laQ (l : GL) (st : SD) (n : Int) : LA where
  ι := QX
  inv := fun x => match x with
    | .y0 x z => ((oInv l st x ∧ x.i < st.len) ∧ 64 ≤ z ∧ z ≤ 1087) ∧ putE x.q 0 (oZ z) = 0 ∧ (x.i : Int) = n
    | .y1 x z => ((oInv l st x ∧ x.i < st.len) ∧ 64 ≤ z ∧ z ≤ 1087) ∧ putE x.q 1 (oZ z) = 0 ∧ (x.i : Int) = n
    | .y2 x z => ((oInv l st x ∧ x.i < st.len) ∧ 64 ≤ z ∧ z ≤ 1087) ∧ putE x.q 2 (oZ z) = 0 ∧ (x.i : Int) = n
    | .y3 x z => ((oInv l st x ∧ x.i < st.len) ∧ 64 ≤ z ∧ z ≤ 1087) ∧ putE x.q 3 (oZ z) = 0 ∧ (x.i : Int) = n
    | .y4 x z => ((oInv l st x ∧ x.i < st.len) ∧ 64 ≤ z ∧ z ≤ 1087) ∧ putE x.q 4 (oZ z) = 0 ∧ (x.i : Int) = n
    | .y5 x z => ((oInv l st x ∧ x.i < st.len) ∧ 64 ≤ z ∧ z ≤ 1087) ∧ putE x.q 5 (oZ z) = 0 ∧ (x.i : Int) = n
    | .y6 x z => ((oInv l st x ∧ x.i < st.len) ∧ 64 ≤ z ∧ z ≤ 1087) ∧ putE x.q 6 (oZ z) = 0 ∧ (x.i : Int) = n
    | .y7 x z => ((oInv l st x ∧ x.i < st.len) ∧ 64 ≤ z ∧ z ≤ 1087) ∧ putE x.q 7 (oZ z) = 0 ∧ (x.i : Int) = n
    | .no x z c => ((oInv l st x ∧ x.i < st.len) ∧ 64 ≤ z ∧ z ≤ 1087) ∧ ¬ putE x.q c (oZ z) = 0 ∧ (x.i : Int) = n
  T := fun x => match x with
    | .y0 x z => opT l st x (opP l x.y (putL x.q 0 (oZ z))) [(11, .one (.a (.ptr 13 0))), (12, int_ .i64 0), (61, .one (.a .tt))] [itR 0 z false]
    | .y1 x z => opT l st x (opP l x.y (putL x.q 1 (oZ z))) [(11, .one (.a (.ptr 13 0))), (12, int_ .i64 1), (61, .one (.a .tt))] [itR 0 z false]
    | .y2 x z => opT l st x (opP l x.y (putL x.q 2 (oZ z))) [(11, .one (.a (.ptr 13 0))), (12, int_ .i64 2), (61, .one (.a .tt))] [itR 0 z false]
    | .y3 x z => opT l st x (opP l x.y (putL x.q 3 (oZ z))) [(11, .one (.a (.ptr 13 0))), (12, int_ .i64 3), (61, .one (.a .tt))] [itR 0 z false]
    | .y4 x z => opT l st x (opP l x.y (putL x.q 4 (oZ z))) [(11, .one (.a (.ptr 13 0))), (12, int_ .i64 4), (61, .one (.a .tt))] [itR 0 z false]
    | .y5 x z => opT l st x (opP l x.y (putL x.q 5 (oZ z))) [(11, .one (.a (.ptr 13 0))), (12, int_ .i64 5), (61, .one (.a .tt))] [itR 0 z false]
    | .y6 x z => opT l st x (opP l x.y (putL x.q 6 (oZ z))) [(11, .one (.a (.ptr 13 0))), (12, int_ .i64 6), (61, .one (.a .tt))] [itR 0 z false]
    | .y7 x z => opT l st x (opP l x.y (putL x.q 7 (oZ z))) [(11, .one (.a (.ptr 13 0))), (12, int_ .i64 7), (61, .one (.a .tt))] [itR 0 z false]
    | .no x z c => opT l st x (opP l x.y (putL x.q c (oZ z))) [(61, .one (.a .ff))] []
  μ := fun _ => 0
  ren := fun S => [0, 1, S.ix 2, S.ix 7] ++ hRen S ++ [S.ix 5, S.ix 11]
structure NX where
  x : OX
  o : Option Nat
def nInv (l : GL) (st : SD) (n : Int) (x : NX) : Prop := (oInv l st { x.x with now := 0 } ∧ x.x.i < st.len ∧ 0 ≤ x.x.now ∧ x.x.now ≤ 65535 * (x.x.i + 1)) ∧ x.o = pk x.x.q (lf8 (cp l x.x.y) 0 false x.x.now) ∧ (x.x.i : Int) = n
theorem pk_ft {l : Ln} {a : A8} : ∀ {m k : Nat}, pkFrom l a m = some k → k < m ∧ fits l a k
  | m + 1, k, h => by
    have h : (if fits l a m then some m else pkFrom l a m) = some k := h
    split at h
    · cases h; exact ⟨by omega, by assumption⟩
    · have := pk_ft h; exact ⟨by omega, this.2⟩
theorem pk_up {l : Ln} {a : A8} : ∀ {m j : Nat}, j < m → fits l a j → ∃ k, pkFrom l a m = some k ∧ j ≤ k
  | m + 1, j, hj, hf => by
    show ∃ k, (if fits l a m then some m else pkFrom l a m) = some k ∧ j ≤ k
    split
    · exact ⟨m, rfl, by omega⟩
    · rename_i hm
      rcases (by omega : j < m ∨ j = m) with h | rfl
      · exact pk_up h hf
      · exact absurd hf hm
theorem pk_9 (q : Ln) (a : A8) : pk q a = none ∨ pk q a = some 0 ∨ pk q a = some 1 ∨ pk q a = some 2 ∨ pk q a = some 3 ∨ pk q a = some 4 ∨ pk q a = some 5 ∨ pk q a = some 6 ∨ pk q a = some 7 := by
  cases h : pk q a with
  | none => exact .inl rfl
  | some k =>
    have hk := (pk_ft (m := 8) h).1
    rcases (by omega : k = 0 ∨ k = 1 ∨ k = 2 ∨ k = 3 ∨ k = 4 ∨ k = 5 ∨ k = 6 ∨ k = 7) with rfl | rfl | rfl | rfl | rfl | rfl | rfl | rfl <;> simp
theorem pkC_e {o : Option Nat} (e : o = none) : pkC o = 0 := by rw [e]; rfl
theorem pkC_f {o : Option Nat} {k : Nat} (e : o = some k) : pkC o = k := by rw [e]; rfl
theorem pkB_e {o : Option Nat} (e : o = none) : pkB o = false := by rw [e]; rfl
theorem pkB_f {o : Option Nat} {k : Nat} (e : o = some k) : pkB o = true := by rw [e]; rfl
theorem pkI_e {q : Ln} {o : Option Nat} (e : o = none) : pkI q o = ⟨0, 0, false⟩ := by rw [e]; rfl
theorem pkI_f {q : Ln} {o : Option Nat} {k : Nat} (e : o = some k) : pkI q o = ⟨q.id k 0, q.sz k 0, q.dr k 0⟩ := by rw [e]; rfl
theorem n_in {l : GL} {st : SD} {x : OX} {d : Int} (h : oInv l st x) (hi : x.i < st.len) : nInv l st (x.i : Int) ⟨⟨x.y, x.q, IntKind.i64.wrap (x.now + bits .and .i64 d 65535), x.i, x.h⟩, nxO (opP l x.y x.q) (IntKind.i64.wrap (x.now + bits .and .i64 d 65535))⟩ := by
  obtain ⟨⟨a1, a2, a3⟩, ⟨b1, b2⟩, c⟩ := oInv_out h
  obtain ⟨n1, n2, _⟩ := now_bd h hi d
  exact ⟨⟨⟨⟨a1, a2, a3⟩, ⟨Int.le_refl _, by show (0 : Int) ≤ 65535 * (x.i : Int); omega⟩, c⟩, hi, n1, n2⟩, nx_pk rfl, rfl⟩
theorem nInv_out {l : GL} {st : SD} {n : Int} {x : NX} (h : nInv l st n x) : (oInv l st { x.x with now := 0 } ∧ x.x.i < st.len ∧ 0 ≤ x.x.now ∧ x.x.now ≤ 65535 * (x.x.i + 1)) ∧ x.o = pk x.x.q (lf8 (cp l x.x.y) 0 false x.x.now) ∧ (x.x.i : Int) = n := h
theorem k_fit {l : GL} {st : SD} {n : Int} {v : NX} (hv : nInv l st n v) {j : Nat} (hj : j < 8) {H : HZ} (hz : ZOK v.x.q j H) (hn : 0 < (v.x.q.n j : Int)) (hf : IntKind.i64.wrap (8 * H.a 0) ≤ leftV l v.x.now j) : pkB v.o = true ∧ (j : Int) ≤ pkC v.o := by
  obtain ⟨⟨h1, h2, h3, h4⟩, h5, h6⟩ := nInv_out hv
  have hs := (oInv_out h1).2.2.1.sz j hj 0 (by show 0 < v.x.q.n j; omega)
  have hs : 64 ≤ v.x.q.sz j 0 ∧ v.x.q.sz j 0 ≤ 1087 := hs
  rw [hz.at_ 0 (by omega), w64' (by omega) (by omega)] at hf
  obtain ⟨k, hk, hjk⟩ := pk_up (l := v.x.q) (a := lf8 (cp l v.x.y) 0 false v.x.now) (m := 8) hj ⟨by omega, by rw [lf8_f hj, lfV_no, cp_left (oInv_out h1).1.1]; exact hf⟩
  have e : v.o = some k := h5.trans hk
  exact ⟨pkB_f e, by rw [pkC_f e]; omega⟩
theorem g_fit {l : GL} {st : SD} {n : Int} {x : OX} {j : Nat} (hj : j < 8) (hv : nInv l st n ⟨x, some j⟩) : 0 < x.q.n j ∧ 8 * x.q.sz j 0 ≤ leftV l x.now j ∧ 64 ≤ x.q.sz j 0 ∧ x.q.sz j 0 ≤ 1087 := by
  obtain ⟨⟨h1, h2, h3, h4⟩, h5, h6⟩ := nInv_out hv
  obtain ⟨_, f1, f2⟩ := pk_ft (m := 8) h5.symm
  have hs := (oInv_out h1).2.2.1.sz j hj 0 f1
  rw [lf8_f hj, lfV_no, cp_left (oInv_out h1).1.1] at f2
  exact ⟨f1, f2, hs⟩
theorem cnt_n {l : GL} {st : SD} {n : Int} {x : OX} {o : Option Nat} (hv : nInv l st n ⟨x, o⟩) : ((x.i + 1 : Nat) : Int) = IntKind.i64.wrap ((x.i : Int) + 1) := cnt_i (x := { x with now := 0 }) hv.1.1 hv.1.2.1
theorem cutz_le {a : Nat} (h : 0 < a) : cutL (some 1) a (Int.toNat 1) ≤ a - cutR (some 1) a (Int.toNat 1) 0 := by
  rw [show cutR (some 1) a (Int.toNat 1) 0 = if a = 1 then 0 else 0 + 1 from rfl, show cutL (some 1) a (Int.toNat 1) = a - 1 from rfl]
  split <;> omega
theorem o_skip0 {l : GL} {st : SD} {n : Int} {x : OX} {o : Option Nat} (hv : nInv l st n ⟨x, o⟩) : oInv l st { x with now := 0 } := hv.1.1
theorem o_skip {l : GL} {st : SD} {n : Int} {x : OX} {o : Option Nat} (hv : nInv l st n ⟨x, o⟩) : oInv l st ⟨x.y, x.q, x.now, x.i + 1, x.h⟩ := by
  obtain ⟨⟨h1, h2, h3, h4⟩, h5, h6⟩ := nInv_out hv
  obtain ⟨⟨a1, a2, a3⟩, _, c, d, e⟩ := oInv_out h1
  exact ⟨⟨a1, h2, a3⟩, ⟨h3, by show x.now ≤ 65535 * ((x.i + 1 : Nat) : Int); have : x.now ≤ 65535 * ((x.i : Int) + 1) := h4; omega⟩, c, d, fun k hk => Nat.le_succ_of_le (e k hk)⟩
theorem zok_pne {q : Ln} {k j : Nat} {a : HZ} (hj : j ≠ k) (h : ZOK q j a) : ZOK (popL q (some k)) j a :=
  ⟨by show up q.n k (q.n k - 1) j ≤ a.c; rw [up_ne _ _ hj]; exact h.n, h.c, fun r hr => by
    have hr : r < up q.n k (q.n k - 1) j := hr
    rw [up_ne _ _ hj] at hr
    show a.a r = up q.sz k (fun r => q.sz k (r + 1)) j r
    rw [up_ne _ _ hj]; exact h.at_ r hr⟩
theorem zok_pat {q : Ln} {k : Nat} {a b : HZ} (hn : 0 < q.n k) (h : ZOK q k a) (hc : b.c = cutL (some 1) a.c (Int.toNat 1)) (hb : ∀ r, b.a r = a.a (r + cutR (some 1) a.c (Int.toNat 1) 0)) : ZOK (popL q (some k)) k b := by
  have h1 := h.n
  have h2 := h.c
  refine ⟨?_, ?_, fun r hr => ?_⟩
  · show up q.n k (q.n k - 1) k ≤ b.c
    rw [up_at, hc, show cutL (some 1) a.c (Int.toNat 1) = a.c - 1 from rfl]
    omega
  · rw [hc, show cutL (some 1) a.c (Int.toNat 1) = a.c - 1 from rfl]; omega
  · have hr : r < up q.n k (q.n k - 1) k := hr
    rw [up_at] at hr
    show b.a r = up q.sz k (fun r => q.sz k (r + 1)) k r
    rw [up_at, hb, show cutR (some 1) a.c (Int.toNat 1) 0 = 1 by show (if a.c = 1 then 0 else 0 + 1) = 1; rw [if_neg (by omega)]]
    exact h.at_ (r + 1) (by omega)
theorem o_pop {l : GL} {st : SD} {n : Int} {x : OX} {j : Nat} {h' : H8} (hj : j < 8) (hv : nInv l st n ⟨x, some j⟩) (hh : HInv x.q x.h → (∀ k, k < 8 → ∀ r, r < (popL x.q (some j)).n k → 64 ≤ (popL x.q (some j)).sz k r ∧ (popL x.q (some j)).sz k r ≤ 1087) → HInv (popL x.q (some j)) h') : oInv l st ⟨x.y, popL x.q (some j), x.now, x.i + 1, h'⟩ := by
  obtain ⟨f1, _⟩ := g_fit hj hv
  obtain ⟨⟨h1, h2, h3, h4⟩, h5, h6⟩ := nInv_out hv
  obtain ⟨⟨a1, a2, a3⟩, _, c, d, e⟩ := oInv_out h1
  refine ⟨⟨a1, h2, a3⟩, ⟨h3, by show x.now ≤ 65535 * ((x.i + 1 : Nat) : Int); have : x.now ≤ 65535 * ((x.i : Int) + 1) := h4; omega⟩, hh c (fun k hk r hr => ?_), d, fun k hk => ?_⟩
  · have hr : r < up x.q.n j (x.q.n j - 1) k := hr
    show 64 ≤ up x.q.sz j (fun r => x.q.sz j (r + 1)) k r ∧ up x.q.sz j (fun r => x.q.sz j (r + 1)) k r ≤ 1087
    by_cases hkj : k = j
    · subst hkj
      rw [up_at] at hr ⊢
      exact c.sz k hk (r + 1) (by show r + 1 < x.q.n k; omega)
    · rw [up_ne _ _ hkj] at hr ⊢
      exact c.sz k hk r hr
  · have e9 : x.q.n k ≤ x.i := e k hk
    show up x.q.n j (x.q.n j - 1) k ≤ x.i + 1
    by_cases hkj : k = j
    · subst hkj; rw [up_at]; omega
    · rw [up_ne _ _ hkj]; omega
noncomputable abbrev laN (l : GL) (st : SD) (n : Int) : LA where
  ι := NX
  inv := nInv l st n
  T := fun x => opT l st x.x (opP l x.x.y (popL x.x.q x.o)) [(13, .one (.a (.ptr 13 0))), (14, int_ .i64 (pkC x.o)), (15, .one (.a (b_ (pkB x.o))))] [itR (pkI x.x.q x.o).id (pkI x.x.q x.o).sz (pkI x.x.q x.o).dr]
  μ := fun _ => 0
  ren := fun S => [0, 1, S.ix 2, S.ix 7] ++ hRen S ++ [S.ix 5, S.ix 13]
inductive KX where
  | k0 (x : NX)
  | k1 (x : NX)
  | k2 (x : NX)
  | k3 (x : NX)
  | k4 (x : NX)
  | k5 (x : NX)
  | k6 (x : NX)
  | k7 (x : NX)
  | k8 (x : NX)
def KX.x : KX → NX
  | .k0 x => x
  | .k1 x => x
  | .k2 x => x
  | .k3 x => x
  | .k4 x => x
  | .k5 x => x
  | .k6 x => x
  | .k7 x => x
  | .k8 x => x
def KX.k : KX → Nat
  | .k0 _ => 0
  | .k1 _ => 1
  | .k2 _ => 2
  | .k3 _ => 3
  | .k4 _ => 4
  | .k5 _ => 5
  | .k6 _ => 6
  | .k7 _ => 7
  | .k8 _ => 8
noncomputable abbrev laK (l : GL) (st : SD) (n : Int) : LA where
  ι := KX
  inv := fun x => nInv l st n x.x
  T := fun x => match x with
    | .k0 x => opT l st x.x (opP l x.x.y (popL x.x.q x.o)) [(13, .one (.a (.ptr 13 0))), (14, int_ .i64 (pkC x.o)), (15, .one (.a (b_ (pkB x.o)))), (16, int_ .i64 (-1))] [itR (pkI x.x.q x.o).id (pkI x.x.q x.o).sz (pkI x.x.q x.o).dr]
    | .k1 x => opT l st x.x (opP l x.x.y (popL x.x.q x.o)) [(13, .one (.a (.ptr 13 0))), (14, int_ .i64 (pkC x.o)), (15, .one (.a (b_ (pkB x.o)))), (16, int_ .i64 (0))] [itR (pkI x.x.q x.o).id (pkI x.x.q x.o).sz (pkI x.x.q x.o).dr]
    | .k2 x => opT l st x.x (opP l x.x.y (popL x.x.q x.o)) [(13, .one (.a (.ptr 13 0))), (14, int_ .i64 (pkC x.o)), (15, .one (.a (b_ (pkB x.o)))), (16, int_ .i64 (1))] [itR (pkI x.x.q x.o).id (pkI x.x.q x.o).sz (pkI x.x.q x.o).dr]
    | .k3 x => opT l st x.x (opP l x.x.y (popL x.x.q x.o)) [(13, .one (.a (.ptr 13 0))), (14, int_ .i64 (pkC x.o)), (15, .one (.a (b_ (pkB x.o)))), (16, int_ .i64 (2))] [itR (pkI x.x.q x.o).id (pkI x.x.q x.o).sz (pkI x.x.q x.o).dr]
    | .k4 x => opT l st x.x (opP l x.x.y (popL x.x.q x.o)) [(13, .one (.a (.ptr 13 0))), (14, int_ .i64 (pkC x.o)), (15, .one (.a (b_ (pkB x.o)))), (16, int_ .i64 (3))] [itR (pkI x.x.q x.o).id (pkI x.x.q x.o).sz (pkI x.x.q x.o).dr]
    | .k5 x => opT l st x.x (opP l x.x.y (popL x.x.q x.o)) [(13, .one (.a (.ptr 13 0))), (14, int_ .i64 (pkC x.o)), (15, .one (.a (b_ (pkB x.o)))), (16, int_ .i64 (4))] [itR (pkI x.x.q x.o).id (pkI x.x.q x.o).sz (pkI x.x.q x.o).dr]
    | .k6 x => opT l st x.x (opP l x.x.y (popL x.x.q x.o)) [(13, .one (.a (.ptr 13 0))), (14, int_ .i64 (pkC x.o)), (15, .one (.a (b_ (pkB x.o)))), (16, int_ .i64 (5))] [itR (pkI x.x.q x.o).id (pkI x.x.q x.o).sz (pkI x.x.q x.o).dr]
    | .k7 x => opT l st x.x (opP l x.x.y (popL x.x.q x.o)) [(13, .one (.a (.ptr 13 0))), (14, int_ .i64 (pkC x.o)), (15, .one (.a (b_ (pkB x.o)))), (16, int_ .i64 (6))] [itR (pkI x.x.q x.o).id (pkI x.x.q x.o).sz (pkI x.x.q x.o).dr]
    | .k8 x => opT l st x.x (opP l x.x.y (popL x.x.q x.o)) [(13, .one (.a (.ptr 13 0))), (14, int_ .i64 (pkC x.o)), (15, .one (.a (b_ (pkB x.o)))), (16, int_ .i64 (7))] [itR (pkI x.x.q x.o).id (pkI x.x.q x.o).sz (pkI x.x.q x.o).dr]
  μ := fun x => x.k
  ren := fun S => [0, 1, S.ix 2, S.ix 7] ++ hRen S ++ [S.ix 5, S.ix 13]
inductive GX where
  | no (x : OX)
  | g0 (x : OX)
  | g1 (x : OX)
  | g2 (x : OX)
  | g3 (x : OX)
  | g4 (x : OX)
  | g5 (x : OX)
  | g6 (x : OX)
  | g7 (x : OX)
def GX.x : GX → OX
  | .no x => x
  | .g0 x => x
  | .g1 x => x
  | .g2 x => x
  | .g3 x => x
  | .g4 x => x
  | .g5 x => x
  | .g6 x => x
  | .g7 x => x
def GX.o : GX → Option Nat
  | .no _ => none
  | .g0 _ => some 0
  | .g1 _ => some 1
  | .g2 _ => some 2
  | .g3 _ => some 3
  | .g4 _ => some 4
  | .g5 _ => some 5
  | .g6 _ => some 6
  | .g7 _ => some 7
noncomputable abbrev laG (l : GL) (st : SD) (n : Int) : LA where
  ι := GX
  inv := fun x => nInv l st n ⟨x.x, x.o⟩
  T := fun x => match x with
    | .no x => opT l st x (opP l x.y x.q) [(13, .one (.a (.ptr 13 0))), (14, int_ .i64 0), (15, .one (.a (b_ false)))] [itR 0 0 false]
    | .g0 x => opT l st x (opP l x.y (popL x.q (some 0))) [(13, .one (.a (.ptr 13 0))), (14, int_ .i64 0), (15, .one (.a (b_ true)))] [itR (x.q.id 0 0) (x.q.sz 0 0) (x.q.dr 0 0)]
    | .g1 x => opT l st x (opP l x.y (popL x.q (some 1))) [(13, .one (.a (.ptr 13 0))), (14, int_ .i64 1), (15, .one (.a (b_ true)))] [itR (x.q.id 1 0) (x.q.sz 1 0) (x.q.dr 1 0)]
    | .g2 x => opT l st x (opP l x.y (popL x.q (some 2))) [(13, .one (.a (.ptr 13 0))), (14, int_ .i64 2), (15, .one (.a (b_ true)))] [itR (x.q.id 2 0) (x.q.sz 2 0) (x.q.dr 2 0)]
    | .g3 x => opT l st x (opP l x.y (popL x.q (some 3))) [(13, .one (.a (.ptr 13 0))), (14, int_ .i64 3), (15, .one (.a (b_ true)))] [itR (x.q.id 3 0) (x.q.sz 3 0) (x.q.dr 3 0)]
    | .g4 x => opT l st x (opP l x.y (popL x.q (some 4))) [(13, .one (.a (.ptr 13 0))), (14, int_ .i64 4), (15, .one (.a (b_ true)))] [itR (x.q.id 4 0) (x.q.sz 4 0) (x.q.dr 4 0)]
    | .g5 x => opT l st x (opP l x.y (popL x.q (some 5))) [(13, .one (.a (.ptr 13 0))), (14, int_ .i64 5), (15, .one (.a (b_ true)))] [itR (x.q.id 5 0) (x.q.sz 5 0) (x.q.dr 5 0)]
    | .g6 x => opT l st x (opP l x.y (popL x.q (some 6))) [(13, .one (.a (.ptr 13 0))), (14, int_ .i64 6), (15, .one (.a (b_ true)))] [itR (x.q.id 6 0) (x.q.sz 6 0) (x.q.dr 6 0)]
    | .g7 x => opT l st x (opP l x.y (popL x.q (some 7))) [(13, .one (.a (.ptr 13 0))), (14, int_ .i64 7), (15, .one (.a (b_ true)))] [itR (x.q.id 7 0) (x.q.sz 7 0) (x.q.dr 7 0)]
  μ := fun _ => 0
  ren := fun S => [0, 1, S.ix 2, S.ix 7] ++ hRen S ++ [S.ix 5, S.ix 13]

end Go.Proofs.Ytaadejgoafdbcaa
