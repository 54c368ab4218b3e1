/-
  For every list of gates and all steps the law GatesChanges answers true and leaves all memory as it was.
-/
import Derived.Test.YtkehcpafbkmapaaSx
import Derived.Test.YtkehcpafbkmapaaGatesS
import Derived.Test.YtkehcpafbkmapaaRows
import Derived.WalkKit
import Derived.ProofKit
import Derived.OpenShut
namespace Go.Proofs.Ytkehcpafbkmapaa.gatesChanges
open Go.ChangeShapes Go.WideShapes Go.ChangeAt Go.RowKit Go.Sx
set_option linter.unusedVariables false
set_option linter.unusedSimpArgs false
set_option maxRecDepth 100000

theorem fn24 : FnOf Try.prog 24 Try.f24 := ⟨Try.func24, rfl, rfl, mixed⟩
theorem fn26 : FnOf Try.prog 26 Try.f26 := ⟨Try.func26, rfl, rfl, mixed⟩
def i_ (n : Int) : SA := .v (.int .i64 n)
def slCols : List Col := [.int .i64 (fun _ => 0), .int .i64 (fun _ => 0)]
/-- the steps -/
structure SD where
  len : Nat
  cap : Nat
  N : Nat
  set : Nat → Bool
  b : Nat → Int
  c : Nat → Int
  A : Nat → Option Addr
  n : Nat → Nat
  k : Nat → Nat
  now : Nat → Int
  F : Value → Nat → Int
  G : Value → Nat → Int
def slv (st : SD) (r : Nat) : Value := .slice (st.A r) (st.n r) (st.k r)
def sl (st : SD) (r : Nat) : GL := ⟨st.b r, st.c r, st.n r, st.k r, st.n r, st.F (slv st r), st.G (slv st r)⟩
def Qs (st : SD) (v : Value) : Prop := ∃ r, r < st.len ∧ v = slv st r
def css (st : SD) (v : Value) : List Col := [.int .i64 (st.F v), .int .i64 (st.G v)]
def roS (st : SD) : Option Reg := some ⟨false, .tab st.N [.bool st.set, .int .i64 st.b, .int .i64 st.c, .val (slv st), .int .i64 st.now]⟩
def opR (st : SD) : Option Reg := some ⟨false, .obj 0 {} (openI (Qs st) (css st))⟩
def Sw (st : SD) : Prop := (st.len ≤ st.cap ∧ st.len ≤ st.N ∧ st.cap ≤ 9223372036854775807) ∧ ∀ r, r < st.len → Gw (sl st r) ∧ -9223372036854775808 ≤ st.now r ∧ st.now r ≤ 9223372036854775807
/-! what comes in -/
def sdOf (w : World) (A : Option Addr) (n c : Nat) : SD := ⟨n, c, n, fun r => boolC w A (r * 5 + 0), fun r => intC w A (r * 5 + 1), fun r => intC w A (r * 5 + 2), fun r => slA (rawC w A (r * 5 + 3)), fun r => slN (rawC w A (r * 5 + 3)), fun r => slK (rawC w A (r * 5 + 3)), fun r => intC w A (r * 5 + 4), fun v r => intC w (slA v) (r * 2 + 0), fun v r => intC w (slA v) (r * 2 + 1)⟩
def sdSh : List Sh := [.num none, .num (some .i64), .num (some .i64), .sl [some .i64, some .i64], .num (some .i64)]
theorem sd_w {w : World} {v : Value} {A : Option Addr} {n c : Nat} (s : SlcM w v sdSh A n c) : Sw (sdOf w A n c) :=
  ⟨⟨s.le, Nat.le_refl _, s.max⟩, fun r hr => ⟨gw_of (s.wf 1 .i64 rfl r hr) (s.wf 2 .i64 rfl r hr) (s.sub 3 _ rfl r hr), i64_of (s.wf 4 .i64 rfl r hr)⟩⟩
theorem sd_q {w : World} {v : Value} {A : Option Addr} {n c : Nat} (s : SlcM w v sdSh A n c) (u : Value) (hu : Qs (sdOf w A n c) u) : ∃ A' n' k, u = .slice A' n' k ∧ ∀ e, RegOK e w A' ⟨false, .tab n' (css (sdOf w A n c) u)⟩ := by
  obtain ⟨r, hr, rfl⟩ := hu
  exact ⟨_, _, _, rfl, (s.sub 3 _ rfl r hr).reg⟩
theorem den_sd {b c : Int} {A B D : Option Addr} {n cap N m k : Nat} {f g : Nat → Int} : #[(G1 0 ⟨b, c, n, cap, N, f, g⟩).den (envOf [A, B, D]), SV.den (envOf [A, B, D]) (.one (.a (.slc 1 5 0 m k)))] = #[.agg #[.int .i64 b, .int .i64 c, .slice A n cap], .slice B m k] := by
  show #[Value.agg ([_, _, SA.den (envOf [A, B, D]) (.slc 0 2 0 n cap)].toArray), SA.den (envOf [A, B, D]) (.slc 1 5 0 m k)] = _
  rw [den_slc (A := A) rfl, den_slc (A := B) rfl]; rfl
/-! memory -/
def gC (l a : GL) (fr : Int) (w : Bool) : List SA := [i_ l.base, i_ l.cyc, .slc 7 2 0 l.len l.cap, i_ a.base, i_ a.cyc, .slc 10 2 0 a.len a.cap, i_ fr, .v (.bool w)]
def sC (st : SD) (r : Nat) : List SA := [.v (.bool (st.set r)), i_ (sl st r).base, i_ (sl st r).cyc, .slc 12 2 0 (sl st r).len (sl st r).cap, i_ (st.now r)]
/-- the law's lists and the gate's -/
structure WX where
  i : Nat
  now : GL
  gl : GL
  come : GL
  ga : GL
  fr : Int
  gfr : Int
  w : Bool
def mB (st : SD) (l : GL) (x : WX) (gw : Bool) (t : Mem) : Mem := roG l :: roS st :: opR st :: some ⟨true, .flat (glCells 0 l)⟩ :: some ⟨true, .flat (gC x.gl x.ga x.gfr gw)⟩ :: some ⟨true, .flat (glCells 8 x.now)⟩ :: some ⟨true, .flat (glCells 9 x.come)⟩ :: roG x.gl :: roG x.now :: roG x.come :: roG x.ga :: t
def cix (S : St) (t c : Nat) : Nat := match S.m[S.ix t]? with | some (some ⟨_, .flat l⟩) => (match l[c]? with | some (.slc i _ _ _ _) => i | _ => 0) | _ => 0
def gsH (S : St) : List GC := [.own (S.ix 5) 2 2 slCols, .own (S.ix 5) 5 2 slCols, .own (S.ix 6) 2 2 slCols, .own (S.ix 7) 2 2 slCols]
def renH (S : St) (l : List Nat) : List Nat := 0 :: 1 :: 2 :: S.ix 2 :: S.ix 5 :: S.ix 6 :: S.ix 7 :: cix S 5 2 :: cix S 6 2 :: cix S 7 2 :: cix S 5 5 :: l
/-- what a list must be -/
def Gv (l : GL) : Prop := Gw l ∧ l.len ≤ 100
def hI (st : SD) (x : WX) : Prop := (x.i ≤ st.len ∧ st.len ≤ 40) ∧ Gv x.now ∧ Gv x.gl ∧ Gv x.come ∧ Gv x.ga ∧ SmG x.gl x.now ∧ (x.w = true → SmG x.ga x.come ∧ x.gfr = x.fr)
def tS (st : SD) (n : Int) (x : WX) (l : Slots) : Slots := (2, .one (.a (.ptr 3 0))) :: (5, .one (.a (.ptr 4 0))) :: (6, .one (.a (.ptr 5 0))) :: (7, .one (.a (.ptr 6 0))) :: (8, int_ .i64 x.fr) :: (9, .one (.a (.v (.bool x.w)))) :: (33, .one (.a (.slc 1 5 0 st.len st.cap))) :: (34, int_ .i64 st.len) :: (35, int_ .i64 n) :: l
noncomputable abbrev laH (st : SD) (l : GL) : LA where
  ι := WX
  inv := hI st
  T := fun x => ⟨161, tS st x.i x [], mB st l x x.w []⟩
  μ := fun x => st.len - x.i
  ren := fun S => renH S []
  gs := gsH
/-- a step -/
def rr (x : WX) : Nat := 0 + (x.i : Int).toNat
noncomputable abbrev la13 (st : SD) (l : GL) (n : Int) : LA where
  ι := WX
  inv := fun x => hI st x ∧ (x.i : Int) = n ∧ x.i < st.len
  T := fun x => ⟨161, tS st n x [(11, .one (.a (.ptr 11 0)))], mB st l x x.w [some ⟨true, .flat (sC st (rr x))⟩, roG (sl st (rr x))]⟩
  μ := fun _ => 0
  ren := fun S => renH S [S.ix 11, cix S 11 3]
  gs := fun S => [.opn 2 (S.ix 11) 3 2 (Qs st) (css st)]
/-- what Change says -/
structure EX where
  x : WX
  gw : Bool
  e : Int
def eF (st : SD) (r : Nat) : Int := if chk (sl st r) ≠ 0 then chk (sl st r) else if st.now r < 0 ∨ 1099511627776 < st.now r then 1 else 0
def mx (a b : Int) : Int := if a < b then b else a
def Gd (st : SD) (r : Nat) (ga : GL) (fr : Int) : Prop := chk (sl st r) = 0 ∧ (0 ≤ st.now r ∧ st.now r ≤ 1099511627776) ∧ Gv ga ∧ SmG ga (sl st r) ∧ fr = turnR (sl st r) (mx (st.now r) (sl st r).base)
def eI (st : SD) (n : Int) (x : EX) : Prop := (x.x.i : Int) = n ∧ x.x.i < st.len ∧ (sl st (rr x.x)).len ≤ 70 ∧ ((hI st x.x ∧ x.gw = x.x.w ∧ x.e ≠ 0 ∧ x.e = eF st (rr x.x)) ∨
  (x.gw = true ∧ x.e = 0 ∧ (st.len ≤ 40 ∧ Gv x.x.now ∧ Gv x.x.come ∧ Gv x.x.gl) ∧ SmG x.x.gl (if x.x.w = true ∧ x.x.fr ≤ st.now (rr x.x) then x.x.come else x.x.now) ∧ Gd st (rr x.x) x.x.ga x.x.gfr))
noncomputable abbrev la16 (st : SD) (l : GL) (n : Int) : LA where
  ι := EX
  inv := eI st n
  T := fun x => ⟨161, tS st n x.x [(12, int_ .i64 x.e), (11, .one (.a (.ptr 11 0)))], mB st l x.x x.gw [some ⟨true, .flat (sC st (rr x.x))⟩, roG (sl st (rr x.x))]⟩
  μ := fun _ => 0
  ren := fun S => renH S [S.ix 11, cix S 11 3]
  gs := gsH
/-- .. what the reference says -/
noncomputable abbrev la17 (st : SD) (l : GL) (n : Int) : LA where
  ι := EX
  inv := eI st n
  T := fun x => ⟨161, tS st n x.x [(12, int_ .i64 x.e), (13, int_ .i64 (chk (sl st (rr x.x)))), (11, .one (.a (.ptr 11 0)))], mB st l x.x x.gw [some ⟨true, .flat (sC st (rr x.x))⟩, roG (sl st (rr x.x))]⟩
  μ := fun _ => 0
  ren := fun S => renH S [S.ix 11, cix S 11 3]
noncomputable abbrev la19 (st : SD) (l : GL) (n : Int) : LA where
  ι := EX
  inv := eI st n
  T := fun x => ⟨161, tS st n x.x [(12, int_ .i64 x.e), (13, int_ .i64 x.e), (11, .one (.a (.ptr 11 0)))], mB st l x.x x.gw [some ⟨true, .flat (sC st (rr x.x))⟩, roG (sl st (rr x.x))]⟩
  μ := fun _ => 0
  ren := fun S => renH S [S.ix 11, cix S 11 3]
/-- behind what Set asks -/
noncomputable abbrev la27 (st : SD) (l : GL) (n : Int) : LA where
  ι := WX
  inv := fun x => hI st x ∧ (x.i : Int) = n ∧ x.i < st.len
  T := fun x => ⟨161, tS st n x [(11, .one (.a (.ptr 11 0)))], mB st l x x.w [some ⟨true, .flat (sC st (rr x))⟩, roG (sl st (rr x))]⟩
  μ := fun _ => 0
  ren := fun S => renH S [S.ix 11, cix S 11 3]
  gs := fun S => gsH S ++ [.own (S.ix 11) 3 2 slCols]
/-- the law's list turned, if it is time -/
structure TX where
  x : WX
  gw : Bool
def tI (st : SD) (n : Int) (x : TX) : Prop := (x.x.i : Int) = n ∧ x.x.i < st.len ∧ ((hI st x.x ∧ x.gw = x.x.w ∧ ¬ (x.x.w = true ∧ x.x.gfr ≤ st.now (rr x.x))) ∨
  (x.gw = true ∧ x.x.w = false ∧ x.x.gfr ≤ st.now (rr x.x) ∧ (st.len ≤ 40 ∧ Gv x.x.now ∧ Gv x.x.come ∧ Gv x.x.gl ∧ Gv x.x.ga) ∧ SmG x.x.ga x.x.now))
noncomputable abbrev la30 (st : SD) (l : GL) (n : Int) : LA where
  ι := TX
  inv := tI st n
  T := fun x => ⟨161, tS st n x.x [(11, .one (.a (.ptr 11 0)))], mB st l x.x x.gw [some ⟨true, .flat (sC st (rr x.x))⟩, roG (sl st (rr x.x))]⟩
  μ := fun _ => 0
  ren := fun S => renH S [S.ix 11, cix S 11 3]
  gs := gsH
/-- the list that holds -/
structure LX where
  x : WX
  lc : GL
def rwG (l : GL) : Option Reg := some ⟨true, .tab l.N [.int .i64 l.op, .int .i64 l.ln]⟩
noncomputable abbrev la31 (st : SD) (l : GL) (n : Int) : LA where
  ι := LX
  inv := fun x => (hI st x.x ∧ (x.x.i : Int) = n ∧ x.x.i < st.len) ∧ Gv x.lc ∧ SmG x.lc x.x.now
  T := fun x => ⟨161, tS st n x.x [(14, .one (.a (.ptr 11 0)))], mB st l x.x x.x.w [some ⟨true, .flat (glCells 12 x.lc)⟩, rwG x.lc]⟩
  μ := fun _ => 0
  ren := fun S => renH S [S.ix 14, cix S 14 2]
  gs := gsH
noncomputable abbrev la33 (st : SD) (l : GL) (n : Int) : LA where
  ι := LX
  inv := fun x => (hI st x.x ∧ (x.x.i : Int) = n ∧ x.x.i < st.len) ∧ Gv x.lc
  T := fun x => ⟨161, tS st n x.x [(14, .one (.a (.ptr 11 0)))], mB st l x.x x.x.w [some ⟨true, .flat (glCells 12 x.lc)⟩, rwG x.lc]⟩
  μ := fun _ => 0
  ren := fun S => renH S [S.ix 14, cix S 14 2]
structure JX where
  x : WX
  lc : GL
  j : Nat
noncomputable abbrev la34 (st : SD) (l : GL) (n : Int) : LA where
  ι := JX
  inv := fun x => (hI st x.x ∧ (x.x.i : Int) = n ∧ x.x.i < st.len) ∧ (x.j ≤ x.lc.len ∧ x.lc.len ≤ 100) ∧ x.lc.len ≤ x.lc.N
  T := fun x => ⟨161, tS st n x.x [(14, .one (.a (.ptr 11 0))), (139, int_ .i64 x.lc.len), (140, int_ .i64 x.j)], mB st l x.x x.x.w [some ⟨true, .flat (glCells 12 x.lc)⟩, rwG x.lc]⟩
  μ := fun x => x.lc.len - x.j
  ren := fun S => renH S [S.ix 14, cix S 14 2]
noncomputable def cxAt : Cx Try.prog := { ps := [], es := [], is := [], n0 := 0, loops := fun _ => none, cuts := fun _ => none }
noncomputable def cxCh : Cx Try.prog := { ps := [chkS, turnS], es := [], is := [inl fn26 cxAt], n0 := 0, loops := fun _ => none, cuts := fun _ => none }
noncomputable def cxL (st : SD) (l : GL) : Cx Try.prog := { ps := [hTuS, rchkS, rtuS, sameS], es := [plainS], is := [inl fn24 cxCh, inl fn26 cxAt], n0 := 3, loops := fun i => match i with | 11 => some (.inv (laH st l)) | 34 => some (.here 35 fun n => la34 st l n) | _ => none, cuts := fun _ => none, cutsAt := fun i => match i with | 13 => some (35, 35, fun n _ => la13 st l n) | 16 => some (35, 35, fun n _ => la16 st l n) | 17 => some (35, 35, fun n _ => la17 st l n) | 19 => some (35, 35, fun n _ => la19 st l n) | 27 => some (35, 35, fun n _ => la27 st l n) | 30 => some (35, 35, fun n _ => la30 st l n) | 31 => some (35, 35, fun n _ => la31 st l n) | 33 => some (35, 35, fun n _ => la33 st l n) | _ => none, held := fun i => match i with | 25 => some (true, .take 0 (.take 1 (.take 3 (.take 4 (.take 5 (.take 6 (.take 7 (.take 8 (.one 2 (.one 9 (.take 10 .done))))))))))) | _ => none }
def g0 : GL := ⟨0, 0, 0, 0, 0, fun _ => 0, fun _ => 0⟩
theorem i6z : I64 0 := by unfold I64; omega
theorem g0_v : Gv g0 := ⟨Gw.mk ⟨i6z, i6z, Nat.le_refl _, Nat.le_refl _, Nat.zero_le _, fun i hi => absurd hi (Nat.not_lt_zero i)⟩, Nat.zero_le _⟩
theorem gv_gw {l : GL} (h : Gv l) : Gw l := h.1
theorem gv_len {l : GL} (h : Gv l) : l.len ≤ 100 := h.2
theorem c17 {l : GL} (h : l.len = 0) : chk l = chk (c0 l) := (chk_nil h).trans c0_chk.symm
theorem tR_cp {l : GL} {y : CL} {a : Int} : turnR (cp l y) a = turnR l a := rfl
theorem gv_n {l : GL} (h : Gv l) : 0 + l.len ≤ l.N := by have := h.1.out.2.2.2.1; omega
theorem gv_m {l : GL} (h : Gv l) : l.len ≤ 137438953472 := Nat.le_trans h.2 (by decide)
theorem sm_rfl (l : GL) : SmG l l := ⟨rfl, rfl, rfl, fun _ _ => ⟨rfl, rfl⟩⟩
theorem sm_trans {a b c : GL} (h : SmG a b) (k : SmG b c) : SmG a c := ⟨h.1.trans k.1, h.2.1.trans k.2.1, h.2.2.1.trans k.2.2.1, fun i hi => ⟨(h.2.2.2 i hi).1.trans (k.2.2.2 i (by rw [← h.2.2.1]; exact hi)).1, (h.2.2.2 i hi).2.trans (k.2.2.2 i (by rw [← h.2.2.1]; exact hi)).2⟩⟩
/-- a list with slots of its own -/
def cpy (l : GL) (cap : Nat) (t : Tail) : GL := ⟨l.base, l.cyc, l.len, cap, cap, fun r => if r < 0 then l.op r else if r < 0 + l.len then l.op (0 + (r - 0)) else t.i 0 r, fun r => if r < 0 then l.ln r else if r < 0 + l.len then l.ln (0 + (r - 0)) else t.i 1 r⟩
theorem cpy_sm (l : GL) (cap : Nat) (t : Tail) : SmG (cpy l cap t) l := ⟨rfl, rfl, rfl, fun i hi => by
  have hi : i < l.len := hi
  constructor
  · show (if i < 0 then l.op i else if i < 0 + l.len then l.op (0 + (i - 0)) else t.i 0 i) = _
    rw [if_neg (Nat.not_lt_zero i), if_pos (by omega), Nat.zero_add, Nat.sub_zero]
  · show (if i < 0 then l.ln i else if i < 0 + l.len then l.ln (0 + (i - 0)) else t.i 1 i) = _
    rw [if_neg (Nat.not_lt_zero i), if_pos (by omega), Nat.zero_add, Nat.sub_zero]⟩
theorem cpy_v {l : GL} {cap : Nat} (t : Tail) (h : Gv l) (h1 : l.len ≤ cap) (h2 : cap ≤ 9223372036854775807) : Gv (cpy l cap t) := by
  obtain ⟨b, c, _, _, _, h4⟩ := h.1.out
  exact ⟨Gw.mk ⟨b, c, h1, h1, h2, fun i hi => by
    obtain ⟨e1, e2⟩ := (cpy_sm l cap t).2.2.2 i hi
    rw [e1, e2]; exact h4 i hi⟩, h.2⟩
theorem rr_lt {st : SD} {x : WX} (h : x.i < st.len) : rr x < st.len := by unfold rr; omega
theorem q_of {st : SD} {x : WX} (h : x.i < st.len) : Qs st (slv st (rr x)) := ⟨rr x, rr_lt h, rfl⟩
theorem h_new {st : SD} {l : GL} (h : Gw l) (h1 : ¬ (64 : Int) < l.len) (h2 : ¬ (40 : Int) < st.len) : hI st ⟨0, l, l, g0, g0, 0, 0, false⟩ :=
  ⟨⟨Nat.zero_le _, by omega⟩, ⟨h, by show l.len ≤ 100; omega⟩, ⟨h, by show l.len ≤ 100; omega⟩, g0_v, g0_v, sm_rfl l, fun hh => by cases hh⟩
theorem h_next {st : SD} {x : WX} (h : hI st x) (hi : x.i < st.len) : hI st ⟨x.i + 1, x.now, x.gl, x.come, x.ga, x.fr, x.gfr, x.w⟩ := ⟨⟨hi, h.1.2⟩, h.2⟩
theorem i_cnt {i : Nat} {n : Int} (h : (i : Int) = n) (hi : i < 100) : ((i + 1 : Nat) : Int) = IntKind.i64.wrap (n + 1) := by
  rw [w64' (by omega) (by omega)]; omega
theorem s_v {st : SD} (hs : Sw st) {x : WX} (hi : x.i < st.len) (hl : (sl st (rr x)).len ≤ 70) : Gv (sl st (rr x)) := ⟨(hs.2 _ (rr_lt hi)).1, by omega⟩
theorem e_bad1 {st : SD} {x : WX} {n : Int} (h : hI st x ∧ (x.i : Int) = n ∧ x.i < st.len) (hl : ¬ (70 : Int) < (sl st (rr x)).len) (hc : ¬ chk (sl st (rr x)) = 0) : eI st n ⟨x, x.w, chk (sl st (rr x))⟩ :=
  ⟨h.2.1, h.2.2, (by show (sl st (rr x)).len ≤ 70; omega), .inl ⟨h.1, rfl, hc, (if_pos hc).symm⟩⟩
theorem e_bad2 {st : SD} {x : WX} {n : Int} (h : hI st x ∧ (x.i : Int) = n ∧ x.i < st.len) (hl : ¬ (70 : Int) < (sl st (rr x)).len) (hc : ¬ ¬ chk (sl st (rr x)) = 0) (hn : st.now (rr x) < 0 ∨ 1099511627776 < st.now (rr x)) : eI st n ⟨x, x.w, 1⟩ :=
  ⟨h.2.1, h.2.2, (by show (sl st (rr x)).len ≤ 70; omega), .inl ⟨h.1, rfl, (by show (1 : Int) ≠ 0; decide), ((if_neg hc).trans (if_pos hn)).symm⟩⟩
theorem e_good {st : SD} {x : WX} {n : Int} (hs : Sw st) (h : hI st x ∧ (x.i : Int) = n ∧ x.i < st.len) (hl : ¬ (70 : Int) < (sl st (rr x)).len) (hc : ¬ ¬ chk (sl st (rr x)) = 0) (h0 : ¬ st.now (rr x) < 0) (h1 : ¬ 1099511627776 < st.now (rr x)) {gl : GL} (hg : Gv gl)
    (hsm : SmG gl (if x.w = true ∧ x.fr ≤ st.now (rr x) then x.come else x.now)) {cap : Nat} {t : Tail} (hc1 : (sl st (rr x)).len ≤ cap) (hc2 : cap ≤ 9223372036854775807) :
    eI st n ⟨⟨x.i, x.now, gl, x.come, cpy (sl st (rr x)) cap t, x.fr, turnV (sl st (rr x)) (mx (st.now (rr x)) (sl st (rr x)).base), x.w⟩, true, 0⟩ := by
  have hl : (sl st (rr x)).len ≤ 70 := by omega
  have hk : chk (sl st (rr x)) = 0 := Decidable.not_not.1 hc
  have ok := chk_ok hk
  refine ⟨h.2.1, h.2.2, hl, .inr ⟨rfl, rfl, ⟨h.1.1.2, h.1.2.1, h.1.2.2.2.1, hg⟩, hsm, hk, ⟨by show 0 ≤ st.now (rr x); omega, by show st.now (rr x) ≤ _; omega⟩, cpy_v t (s_v hs h.2.2 hl) hc1 hc2, cpy_sm _ _ _, ?_⟩⟩
  have b1 := ok.b1
  have b2 := ok.b2
  refine turn_R hk ?_
  unfold inR mx
  split <;> omega
theorem e_chk {st : SD} {x : EX} {n : Int} (h : eI st n x) (hc : ¬ chk (sl st (rr x.x)) = 0 ∨ (0 ≤ st.now (rr x.x) ∧ st.now (rr x.x) ≤ 1099511627776)) : x.e = chk (sl st (rr x.x)) := by
  obtain ⟨_, _, _, ⟨_, _, h1, h2⟩ | ⟨_, h1, _, _, h2⟩⟩ := h
  · unfold eF at h2
    split at h2
    · exact h2
    · rename_i h3
      rcases hc with hc | hc
      · exact absurd hc h3
      · rw [if_neg (by omega)] at h2
        exact absurd h2 h1
  · rw [h1, h2.1]
theorem e_one {st : SD} {x : EX} {n : Int} (h : eI st n x) (hc : chk (sl st (rr x.x)) = 0) (hn : st.now (rr x.x) < 0 ∨ 1099511627776 < st.now (rr x.x)) : x.e = 1 := by
  obtain ⟨_, _, _, ⟨_, _, h1, h2⟩ | ⟨_, h1, _, _, h2⟩⟩ := h
  · unfold eF at h2
    rw [if_neg (fun hh => hh hc), if_pos hn] at h2
    exact h2
  · have := h2.2.1
    omega
theorem e_0 {st : SD} {x : EX} {n : Int} (h : eI st n x) (h0 : x.e = 0) : x.gw = true ∧ (st.len ≤ 40 ∧ Gv x.x.now ∧ Gv x.x.come ∧ Gv x.x.gl) ∧ SmG x.x.gl (if x.x.w = true ∧ x.x.fr ≤ st.now (rr x.x) then x.x.come else x.x.now) ∧ Gd st (rr x.x) x.x.ga x.x.gfr := by
  obtain ⟨_, _, _, ⟨_, _, h1, h2⟩ | ⟨h3, h1, h4, h5, h6⟩⟩ := h
  · exact absurd h0 h1
  · exact ⟨h3, h4, h5, h6⟩
theorem e_n0 {st : SD} {x : EX} {n : Int} (h : eI st n x) (h0 : ¬ x.e = 0) : hI st x.x ∧ x.gw = x.x.w := by
  obtain ⟨_, _, _, ⟨h3, h4, h1, h2⟩ | ⟨h3, h1, h4, h5, h6⟩⟩ := h
  · exact ⟨h3, h4⟩
  · exact absurd h1 h0
theorem e_len {st : SD} {x : EX} {n : Int} (h : eI st n x) (h0 : x.e = 0) (hl : (sl st (rr x.x)).len = 0) : False := by
  have ok := chk_ok (e_0 h h0).2.2.2.1
  have := ok.n1
  omega
theorem e_tm {st : SD} {x : EX} {n : Int} (h : eI st n x) (h0 : x.e = 0) : Tm (mx (st.now (rr x.x)) (sl st (rr x.x)).base) := by
  obtain ⟨h1, ⟨h2, h3⟩, _⟩ := (e_0 h h0).2.2.2
  have ok := chk_ok h1
  have b1 := ok.b1
  have b2 := ok.b2
  unfold Tm mx
  split <;> omega
/-- behind a change -/
theorem e_turn {st : SD} {x : EX} {n : Int} (hs : Sw st) (h : eI st n x) (h0 : x.e = 0) {now : GL} (hw : now = if x.x.w = true ∧ x.x.fr ≤ st.now (rr x.x) then x.x.come else x.x.now) :
    hI st ⟨x.x.i, now, x.x.gl, sl st (rr x.x), x.x.ga, turnR (sl st (rr x.x)) (mx (st.now (rr x.x)) (sl st (rr x.x)).base), x.x.gfr, true⟩ ∧ ((x.x.i : Int) = n ∧ x.x.i < st.len) := by
  obtain ⟨_, ⟨h1, h2, h3, h4⟩, h5, h6, h7, h8, h9, h10⟩ := e_0 h h0
  refine ⟨⟨⟨Nat.le_of_lt h.2.1, h1⟩, ?_, h4, s_v hs h.2.1 h.2.2.1, h8, ?_, fun _ => ⟨h9, h10⟩⟩, h.1, h.2.1⟩
  · show Gv now
    rw [hw]; split
    · exact h3
    · exact h2
  · show SmG x.x.gl now
    rw [hw]; exact h5
theorem t_yes {st : SD} {x : WX} {n : Int} (h : hI st x ∧ (x.i : Int) = n ∧ x.i < st.len) (hw : x.w = true) (hf : x.fr ≤ st.now (rr x)) : tI st n ⟨⟨x.i, x.come, x.gl, x.come, x.ga, x.fr, x.gfr, false⟩, true⟩ :=
  ⟨h.2.1, h.2.2, .inr ⟨rfl, rfl, by show x.gfr ≤ st.now (rr x); rw [(h.1.2.2.2.2.2.2 hw).2]; exact hf, ⟨h.1.1.2, h.1.2.2.2.1, h.1.2.2.2.1, h.1.2.2.1, h.1.2.2.2.2.1⟩, (h.1.2.2.2.2.2.2 hw).1⟩⟩
theorem t_no {st : SD} {x : WX} {n : Int} (h : hI st x ∧ (x.i : Int) = n ∧ x.i < st.len) (hw : x.w = true → ¬ x.fr ≤ st.now (rr x)) : tI st n ⟨x, x.w⟩ :=
  ⟨h.2.1, h.2.2, .inl ⟨h.1, rfl, fun ⟨h1, h2⟩ => hw h1 (by rw [← (h.1.2.2.2.2.2.2 h1).2]; exact h2)⟩⟩
theorem t_a {st : SD} {x : TX} {n : Int} (h : tI st n x) : Gv x.x.gl ∧ Gv x.x.ga := by
  obtain ⟨_, _, ⟨h1, _⟩ | ⟨_, _, _, h1, _⟩⟩ := h
  · exact ⟨h1.2.2.1, h1.2.2.2.2.1⟩
  · exact ⟨h1.2.2.2.1, h1.2.2.2.2⟩
theorem t_w {st : SD} {x : TX} {n : Int} (h : tI st n x) (hg : x.gw = true) (hf : x.x.gfr ≤ st.now (rr x.x)) : x.x.w = false ∧ (hI st ⟨x.x.i, x.x.now, x.x.ga, x.x.come, g0, x.x.fr, 0, false⟩ ∧ (x.x.i : Int) = n ∧ x.x.i < st.len) ∧ SmG x.x.ga x.x.now := by
  obtain ⟨h1, h2, ⟨h3, h4, h5⟩ | ⟨h3, h4, h5, ⟨h6, h7, h8, h9, h10⟩, h11⟩⟩ := h
  · exact absurd ⟨h4 ▸ hg, hf⟩ h5
  · exact ⟨h4, ⟨⟨⟨Nat.le_of_lt h2, h6⟩, h7, h10, h8, g0_v, h11, fun hh => by cases hh⟩, h1, h2⟩, h11⟩
theorem t_s {st : SD} {x : TX} {n : Int} (h : tI st n x) (hf : ¬ x.x.gfr ≤ st.now (rr x.x) ∨ x.gw = false) : x.gw = x.x.w ∧ (hI st x.x ∧ (x.x.i : Int) = n ∧ x.x.i < st.len) ∧ SmG x.x.gl x.x.now := by
  obtain ⟨h1, h2, ⟨h3, h4, h5⟩ | ⟨h3, h4, h5, ⟨h6, h7, h8, h9, h10⟩, h11⟩⟩ := h
  · exact ⟨h4, ⟨h3, h1, h2⟩, h3.2.2.2.2.2.1⟩
  · rcases hf with hf | hf
    · exact absurd h5 hf
    · rw [hf] at h3; cases h3
section
attribute [local irreducible] anyAlt enter Gw Gv CS Lex HeldOK SmG Tm chk turnV turnR
set_option maxHeartbeats 16000000 in
theorem runs (l : GL) (st : SD) (hl : Gw l) (hs : Sw st) : Runs (cxL st l) Try.f7 [G1 0 l, .one (.a (.slc 1 5 0 st.len st.cap))] [roG l, roS st, opR st] yes := by
  obtain ⟨st1, st2, st3⟩ := hs.1
  repeat' (first | with_reducible exact trivial | with_reducible exact rfl | with_reducible exact Nat.le_refl _ | with_reducible exact (fun _ _ => rfl) | ((conv => whnf); first | (refine fun (x : WX) => ?_) | (refine fun (y : EX) => ?_) | (refine fun (z : LX) => ?_) | (refine fun (u : JX) => ?_) | (refine fun (v : TX) => ?_) | (refine fun (w : CL) => ?_) | (exact fun h => absurd h (by decide)) | (intro h9; (have h8 := of_decide_eq_true (p := type_of% h9) (by decide)); clear h8 h9) | (refine fun _ => ?_) | refine ⟨?_, ?_⟩ | exact trivial | exact Nat.le_refl _ | exact lex_q (by kernel_rfl) | exact lex_t (by kernel_rfl) | exact lex_h (by kernel_rfl) | fail))
  all_goals (try omega)
  all_goals (try exact (decide_eq_true rfl).symm)
  · skip
    (conv => whnf); refine enter_mk (la := laH st l) ⟨0, l, l, g0, g0, 0, 0, false⟩ ?_ (by (repeat' (first | ((conv => whnf); first | refine ⟨?_, ?_⟩ | exact trivial | fail) | (dsimp only; done) | ((try dsimp only); first | with_reducible exact rfl | exact Nat.le_refl _ | with_reducible exact (fun _ _ => rfl)))); all_goals ((first | rfl | exact fun _ _ => rfl)))
    exact h_new hl (by assumption) (by assumption)
  · skip
    have hx := (by assumption : hI st x)
    have hi : x.i < st.len := by omega
    (conv => whnf); refine enter_mk (la := la13 st l x.i) x ?_ (by (repeat' (first | ((conv => whnf); first | refine ⟨?_, ?_⟩ | exact trivial | fail) | (dsimp only; done) | ((try dsimp only); first | with_reducible exact rfl | exact Nat.le_refl _ | with_reducible exact (fun _ _ => rfl)))); all_goals ((first | rfl | exact fun _ _ => rfl | exact rr_lt hi)))
    exact ⟨hx, rfl, hi⟩
  · skip
    have hx := (by assumption : hI st x ∧ (x.i : Int) = _ ∧ x.i < st.len)
    have hc := i_cnt hx.2.1 (by have := hx.1.1.2; omega)
    have hm : ∀ k : Nat, (x.i : Int) = k → st.len - (x.i + 1) < st.len - k := fun k hk => by have := hx.2.2; omega
    (conv => whnf); refine enter_mk (la := laH st l) ⟨x.i + 1, x.now, x.gl, x.come, x.ga, x.fr, x.gfr, x.w⟩ ?_ (by (repeat' (first | ((conv => whnf); first | refine ⟨?_, ?_⟩ | exact trivial | fail) | (dsimp only; done) | ((try dsimp only); first | with_reducible exact rfl | exact Nat.le_refl _ | with_reducible exact (fun _ _ => rfl)))); all_goals ((first | rfl | exact fun _ _ => rfl | exact hc | exact hm _ hx.2.1)))
    exact h_next hx.1 hx.2.2
  · skip
    have hx := (by assumption : hI st x ∧ (x.i : Int) = _ ∧ x.i < st.len)
    exact (hs.2 _ (rr_lt hx.2.2)).1
  · skip
    have hx := (by assumption : hI st x ∧ (x.i : Int) = _ ∧ x.i < st.len)
    (conv => whnf); refine enter_mk (la := la16 st l _) ⟨x, x.w, _⟩ ?_ (by (repeat' (first | ((conv => whnf); first | refine ⟨?_, ?_⟩ | exact trivial | fail) | (dsimp only; done) | ((try dsimp only); first | with_reducible exact rfl | exact Nat.le_refl _ | with_reducible exact (fun _ _ => rfl)))); all_goals ((first | rfl | exact fun _ _ => rfl)))
    exact e_bad1 hx (by assumption) (by assumption)
  · skip
    have hx := (by assumption : hI st x ∧ (x.i : Int) = _ ∧ x.i < st.len)
    (conv => whnf); refine enter_mk (la := la16 st l _) ⟨x, x.w, 1⟩ ?_ (by (repeat' (first | ((conv => whnf); first | refine ⟨?_, ?_⟩ | exact trivial | fail) | (dsimp only; done) | ((try dsimp only); first | with_reducible exact rfl | exact Nat.le_refl _ | with_reducible exact (fun _ _ => rfl)))); all_goals ((first | rfl | exact fun _ _ => rfl)))
    exact e_bad2 hx (by assumption) (by assumption) (.inl (by assumption))
  · skip
    have hx := (by assumption : hI st x ∧ (x.i : Int) = _ ∧ x.i < st.len)
    (conv => whnf); refine enter_mk (la := la16 st l _) ⟨x, x.w, 1⟩ ?_ (by (repeat' (first | ((conv => whnf); first | refine ⟨?_, ?_⟩ | exact trivial | fail) | (dsimp only; done) | ((try dsimp only); first | with_reducible exact rfl | exact Nat.le_refl _ | with_reducible exact (fun _ _ => rfl)))); all_goals ((first | rfl | exact fun _ _ => rfl)))
    exact e_bad2 hx (by assumption) (by assumption) (.inr (by assumption))
  · skip
    have hx := (by assumption : hI st x ∧ (x.i : Int) = _ ∧ x.i < st.len)
    exact gv_n hx.1.2.2.2.2.1
  · skip
    have hx := (by assumption : hI st x ∧ (x.i : Int) = _ ∧ x.i < st.len)
    exact gv_m hx.1.2.2.2.2.1
  · skip
    have hx := (by assumption : hI st x ∧ (x.i : Int) = _ ∧ x.i < st.len)
    exact (hs.2 _ (rr_lt hx.2.2)).1
  · skip
    have hx := (by assumption : hI st x ∧ (x.i : Int) = _ ∧ x.i < st.len)
    exact gv_n (s_v hs hx.2.2 (by omega))
  · skip
    have hx := (by assumption : hI st x ∧ (x.i : Int) = _ ∧ x.i < st.len)
    (conv => whnf); refine enter_mk (la := la16 st l _) ⟨⟨x.i, x.now, x.ga, x.come, ⟨_, _, _, _, _, _, _⟩, x.fr, _, x.w⟩, true, 0⟩ ?_ (by (repeat' (first | ((conv => whnf); first | refine ⟨?_, ?_⟩ | exact trivial | fail) | (dsimp only; done) | ((try dsimp only); first | with_reducible exact rfl | exact Nat.le_refl _ | with_reducible exact (fun _ _ => rfl)))); all_goals ((first | rfl | exact fun _ _ => rfl)))
    have hsm : SmG x.ga (if x.w = true ∧ x.fr ≤ st.now (rr x) then x.come else x.now) := by rw [if_pos ⟨by assumption, by rw [← (hx.1.2.2.2.2.2.2 (by assumption)).2]; assumption⟩]; exact (hx.1.2.2.2.2.2.2 (by assumption)).1
    exact e_good hs hx (by assumption) (by assumption) (by assumption) (by assumption) hx.1.2.2.2.2.1 hsm (by assumption) (by assumption)
  · skip
    have hx := (by assumption : hI st x ∧ (x.i : Int) = _ ∧ x.i < st.len)
    exact gv_n hx.1.2.2.1
  · skip
    have hx := (by assumption : hI st x ∧ (x.i : Int) = _ ∧ x.i < st.len)
    exact gv_m hx.1.2.2.1
  · skip
    have hx := (by assumption : hI st x ∧ (x.i : Int) = _ ∧ x.i < st.len)
    exact (hs.2 _ (rr_lt hx.2.2)).1
  · skip
    have hx := (by assumption : hI st x ∧ (x.i : Int) = _ ∧ x.i < st.len)
    exact gv_n (s_v hs hx.2.2 (by omega))
  · skip
    have hx := (by assumption : hI st x ∧ (x.i : Int) = _ ∧ x.i < st.len)
    (conv => whnf); refine enter_mk (la := la16 st l _) ⟨⟨x.i, x.now, x.gl, x.come, ⟨_, _, _, _, _, _, _⟩, x.fr, _, x.w⟩, true, 0⟩ ?_ (by (repeat' (first | ((conv => whnf); first | refine ⟨?_, ?_⟩ | exact trivial | fail) | (dsimp only; done) | ((try dsimp only); first | with_reducible exact rfl | exact Nat.le_refl _ | with_reducible exact (fun _ _ => rfl)))); all_goals ((first | rfl | exact fun _ _ => rfl)))
    have hsm : SmG x.gl (if x.w = true ∧ x.fr ≤ st.now (rr x) then x.come else x.now) := by rw [if_neg (fun ⟨h1, h2⟩ => (by assumption : ¬ x.gfr ≤ st.now (rr x)) (by rw [(hx.1.2.2.2.2.2.2 h1).2]; exact h2))]; exact hx.1.2.2.2.2.2.1
    exact e_good hs hx (by assumption) (by assumption) (by assumption) (by assumption) hx.1.2.2.1 hsm (by assumption) (by assumption)
  · skip
    have hx := (by assumption : hI st x ∧ (x.i : Int) = _ ∧ x.i < st.len)
    exact gv_n hx.1.2.2.1
  · skip
    have hx := (by assumption : hI st x ∧ (x.i : Int) = _ ∧ x.i < st.len)
    exact gv_m hx.1.2.2.1
  · skip
    have hx := (by assumption : hI st x ∧ (x.i : Int) = _ ∧ x.i < st.len)
    exact (hs.2 _ (rr_lt hx.2.2)).1
  · skip
    have hx := (by assumption : hI st x ∧ (x.i : Int) = _ ∧ x.i < st.len)
    exact gv_n (s_v hs hx.2.2 (by omega))
  · skip
    have hx := (by assumption : hI st x ∧ (x.i : Int) = _ ∧ x.i < st.len)
    (conv => whnf); refine enter_mk (la := la16 st l _) ⟨⟨x.i, x.now, x.gl, x.come, ⟨_, _, _, _, _, _, _⟩, x.fr, _, x.w⟩, true, 0⟩ ?_ (by (repeat' (first | ((conv => whnf); first | refine ⟨?_, ?_⟩ | exact trivial | fail) | (dsimp only; done) | ((try dsimp only); first | with_reducible exact rfl | exact Nat.le_refl _ | with_reducible exact (fun _ _ => rfl)))); all_goals ((first | rfl | exact fun _ _ => rfl)))
    have hsm : SmG x.gl (if x.w = true ∧ x.fr ≤ st.now (rr x) then x.come else x.now) := by rw [if_neg (fun ⟨h1, h2⟩ => absurd (h1.symm.trans (by assumption : x.w = false)) (by decide))]; exact hx.1.2.2.2.2.2.1
    exact e_good hs hx (by assumption) (by assumption) (by assumption) (by assumption) hx.1.2.2.1 hsm (by assumption) (by assumption)
  · skip
    have hy := (by assumption : eI st _ y)
    exact gv_gw (s_v hs hy.2.1 hy.2.2.1)
  · skip
    have hy := (by assumption : eI st _ y)
    exact gv_len (s_v hs hy.2.1 hy.2.2.1)
  · skip
    have hy := (by assumption : eI st _ y)
    exact c0_gw (gv_gw (s_v hs hy.2.1 hy.2.2.1))
  · skip
    have hy := (by assumption : eI st _ y)
    have hn := (by assumption : (sl st (rr y.x)).len = 0)
    (conv => whnf); refine enter_mk (la := la17 st l _) y ?_ (by (repeat' (first | ((conv => whnf); first | refine ⟨?_, ?_⟩ | exact trivial | fail) | (dsimp only; done) | ((try dsimp only); first | with_reducible exact rfl | exact Nat.le_refl _ | with_reducible exact (fun _ _ => rfl)))); all_goals ((first | rfl | exact fun _ _ => rfl | exact c17 hn)))
    exact hy
  · skip
    have hy := (by assumption : eI st _ y)
    have hc := (by assumption : (sl st (rr y.x)).len ≠ 0 ∧ CS (sl st (rr y.x)).len (sl st (rr y.x)) w)
    exact cp_gw hc.2 (gv_gw (s_v hs hy.2.1 hy.2.2.1))
  · skip
    have hy := (by assumption : eI st _ y)
    have hc := (by assumption : (sl st (rr y.x)).len ≠ 0 ∧ CS (sl st (rr y.x)).len (sl st (rr y.x)) w)
    (conv => whnf); refine enter_mk (la := la17 st l _) y ?_ (by (repeat' (first | ((conv => whnf); first | refine ⟨?_, ?_⟩ | exact trivial | fail) | (dsimp only; done) | ((try dsimp only); first | with_reducible exact rfl | exact Nat.le_refl _ | with_reducible exact (fun _ _ => rfl)))); all_goals ((first | rfl | exact fun _ _ => rfl | exact (cp_chk hc.2).symm)))
    exact hy
  · skip
    have hy := (by assumption : eI st _ y)
    have he : y.e = 1 := e_one hy (by assumption) (.inl (by assumption))
    (conv => whnf); refine enter_mk (la := la19 st l _) y ?_ (by (repeat' (first | ((conv => whnf); first | refine ⟨?_, ?_⟩ | exact trivial | fail) | (dsimp only; done) | ((try dsimp only); first | with_reducible exact rfl | exact Nat.le_refl _ | with_reducible exact (fun _ _ => rfl)))); all_goals ((first | rfl | exact fun _ _ => rfl | exact he | exact he.symm)))
    exact hy
  · skip
    have hy := (by assumption : eI st _ y)
    have he : y.e = 1 := e_one hy (by assumption) (.inr (by assumption))
    (conv => whnf); refine enter_mk (la := la19 st l _) y ?_ (by (repeat' (first | ((conv => whnf); first | refine ⟨?_, ?_⟩ | exact trivial | fail) | (dsimp only; done) | ((try dsimp only); first | with_reducible exact rfl | exact Nat.le_refl _ | with_reducible exact (fun _ _ => rfl)))); all_goals ((first | rfl | exact fun _ _ => rfl | exact he | exact he.symm)))
    exact hy
  · skip
    have hy := (by assumption : eI st _ y)
    have he := e_chk hy (.inr ⟨by omega, by omega⟩)
    (conv => whnf); refine enter_mk (la := la19 st l _) y ?_ (by (repeat' (first | ((conv => whnf); first | refine ⟨?_, ?_⟩ | exact trivial | fail) | (dsimp only; done) | ((try dsimp only); first | with_reducible exact rfl | exact Nat.le_refl _ | with_reducible exact (fun _ _ => rfl)))); all_goals ((first | rfl | exact fun _ _ => rfl | exact he | exact he.symm)))
    exact hy
  · skip
    have hy := (by assumption : eI st _ y)
    have he := e_chk hy (.inl (by assumption))
    (conv => whnf); refine enter_mk (la := la19 st l _) y ?_ (by (repeat' (first | ((conv => whnf); first | refine ⟨?_, ?_⟩ | exact trivial | fail) | (dsimp only; done) | ((try dsimp only); first | with_reducible exact rfl | exact Nat.le_refl _ | with_reducible exact (fun _ _ => rfl)))); all_goals ((first | rfl | exact fun _ _ => rfl | exact he | exact he.symm)))
    exact hy
  · skip
    have hy := (by assumption : eI st _ y)
    exact gv_gw (s_v hs hy.2.1 hy.2.2.1)
  · skip
    have hy := (by assumption : eI st _ y)
    exact gv_len (s_v hs hy.2.1 hy.2.2.1)
  · skip
    have hy := (by assumption : eI st _ y)
    exact c0_gw (gv_gw (s_v hs hy.2.1 hy.2.2.1))
  · skip
    have hy := (by assumption : eI st _ y)
    have hn := (by assumption : (sl st (rr y.x)).len = 0)
    have h0 := (by assumption : y.e = 0)
    exact (e_len hy h0 hn).elim
  · skip
    have hy := (by assumption : eI st _ y)
    have hn := (by assumption : (sl st (rr y.x)).len = 0)
    have h0 := (by assumption : y.e = 0)
    exact (e_len hy h0 hn).elim
  · skip
    have hy := (by assumption : eI st _ y)
    have hn := (by assumption : (sl st (rr y.x)).len = 0)
    have h0 := (by assumption : y.e = 0)
    exact (e_len hy h0 hn).elim
  · skip
    have hy := (by assumption : eI st _ y)
    have hc := (by assumption : (sl st (rr y.x)).len ≠ 0 ∧ CS (sl st (rr y.x)).len (sl st (rr y.x)) w)
    exact cp_gw hc.2 (gv_gw (s_v hs hy.2.1 hy.2.2.1))
  · skip
    have hy := (by assumption : eI st _ y)
    have hc := (by assumption : (sl st (rr y.x)).len ≠ 0 ∧ CS (sl st (rr y.x)).len (sl st (rr y.x)) w)
    have h0 := (by assumption : y.e = 0)
    exact (cp_chk hc.2).trans (e_0 hy h0).2.2.2.1
  · skip
    have hy := (by assumption : eI st _ y)
    have hc := (by assumption : (sl st (rr y.x)).len ≠ 0 ∧ CS (sl st (rr y.x)).len (sl st (rr y.x)) w)
    have h0 := (by assumption : y.e = 0)
    exact e_tm hy h0
  · skip
    have hy := (by assumption : eI st _ y)
    have hc := (by assumption : (sl st (rr y.x)).len ≠ 0 ∧ CS (sl st (rr y.x)).len (sl st (rr y.x)) w)
    have h0 := (by assumption : y.e = 0)
    have hg := (e_0 hy h0).1
    (conv => whnf); refine enter_mk (la := la27 st l _) ⟨y.x.i, y.x.come, y.x.gl, sl st (rr y.x), y.x.ga, turnR (sl st (rr y.x)) (mx (st.now (rr y.x)) (sl st (rr y.x)).base), y.x.gfr, true⟩ ?_ (by (repeat' (first | ((conv => whnf); first | refine ⟨?_, ?_⟩ | exact trivial | fail) | (dsimp only; done) | ((try dsimp only); first | with_reducible exact rfl | exact Nat.le_refl _ | with_reducible exact (fun _ _ => rfl)))); all_goals ((first | rfl | exact fun _ _ => rfl | exact hg.symm | exact hg | exact tR_cp | exact tR_cp.symm)))
    exact e_turn hs hy h0 (if_pos ⟨by assumption, by assumption⟩).symm
  · skip
    have hy := (by assumption : eI st _ y)
    exact gv_gw (s_v hs hy.2.1 hy.2.2.1)
  · skip
    have hy := (by assumption : eI st _ y)
    exact gv_len (s_v hs hy.2.1 hy.2.2.1)
  · skip
    have hy := (by assumption : eI st _ y)
    exact c0_gw (gv_gw (s_v hs hy.2.1 hy.2.2.1))
  · skip
    have hy := (by assumption : eI st _ y)
    have hn := (by assumption : (sl st (rr y.x)).len = 0)
    have h0 := (by assumption : y.e = 0)
    exact (e_len hy h0 hn).elim
  · skip
    have hy := (by assumption : eI st _ y)
    have hn := (by assumption : (sl st (rr y.x)).len = 0)
    have h0 := (by assumption : y.e = 0)
    exact (e_len hy h0 hn).elim
  · skip
    have hy := (by assumption : eI st _ y)
    have hn := (by assumption : (sl st (rr y.x)).len = 0)
    have h0 := (by assumption : y.e = 0)
    exact (e_len hy h0 hn).elim
  · skip
    have hy := (by assumption : eI st _ y)
    have hc := (by assumption : (sl st (rr y.x)).len ≠ 0 ∧ CS (sl st (rr y.x)).len (sl st (rr y.x)) w)
    exact cp_gw hc.2 (gv_gw (s_v hs hy.2.1 hy.2.2.1))
  · skip
    have hy := (by assumption : eI st _ y)
    have hc := (by assumption : (sl st (rr y.x)).len ≠ 0 ∧ CS (sl st (rr y.x)).len (sl st (rr y.x)) w)
    have h0 := (by assumption : y.e = 0)
    exact (cp_chk hc.2).trans (e_0 hy h0).2.2.2.1
  · skip
    have hy := (by assumption : eI st _ y)
    have hc := (by assumption : (sl st (rr y.x)).len ≠ 0 ∧ CS (sl st (rr y.x)).len (sl st (rr y.x)) w)
    have h0 := (by assumption : y.e = 0)
    exact e_tm hy h0
  · skip
    have hy := (by assumption : eI st _ y)
    have hc := (by assumption : (sl st (rr y.x)).len ≠ 0 ∧ CS (sl st (rr y.x)).len (sl st (rr y.x)) w)
    have h0 := (by assumption : y.e = 0)
    have hg := (e_0 hy h0).1
    (conv => whnf); refine enter_mk (la := la27 st l _) ⟨y.x.i, y.x.now, y.x.gl, sl st (rr y.x), y.x.ga, turnR (sl st (rr y.x)) (mx (st.now (rr y.x)) (sl st (rr y.x)).base), y.x.gfr, true⟩ ?_ (by (repeat' (first | ((conv => whnf); first | refine ⟨?_, ?_⟩ | exact trivial | fail) | (dsimp only; done) | ((try dsimp only); first | with_reducible exact rfl | exact Nat.le_refl _ | with_reducible exact (fun _ _ => rfl)))); all_goals ((first | rfl | exact fun _ _ => rfl | exact hg.symm | exact hg | exact tR_cp | exact tR_cp.symm)))
    exact e_turn hs hy h0 (if_neg (fun ⟨h1, h2⟩ => (by assumption : ¬ y.x.fr ≤ st.now (rr y.x)) h2)).symm
  · skip
    have hy := (by assumption : eI st _ y)
    exact gv_gw (s_v hs hy.2.1 hy.2.2.1)
  · skip
    have hy := (by assumption : eI st _ y)
    exact gv_len (s_v hs hy.2.1 hy.2.2.1)
  · skip
    have hy := (by assumption : eI st _ y)
    exact c0_gw (gv_gw (s_v hs hy.2.1 hy.2.2.1))
  · skip
    have hy := (by assumption : eI st _ y)
    have hn := (by assumption : (sl st (rr y.x)).len = 0)
    have h0 := (by assumption : y.e = 0)
    exact (e_len hy h0 hn).elim
  · skip
    have hy := (by assumption : eI st _ y)
    have hn := (by assumption : (sl st (rr y.x)).len = 0)
    have h0 := (by assumption : y.e = 0)
    exact (e_len hy h0 hn).elim
  · skip
    have hy := (by assumption : eI st _ y)
    have hn := (by assumption : (sl st (rr y.x)).len = 0)
    have h0 := (by assumption : y.e = 0)
    exact (e_len hy h0 hn).elim
  · skip
    have hy := (by assumption : eI st _ y)
    have hc := (by assumption : (sl st (rr y.x)).len ≠ 0 ∧ CS (sl st (rr y.x)).len (sl st (rr y.x)) w)
    exact cp_gw hc.2 (gv_gw (s_v hs hy.2.1 hy.2.2.1))
  · skip
    have hy := (by assumption : eI st _ y)
    have hc := (by assumption : (sl st (rr y.x)).len ≠ 0 ∧ CS (sl st (rr y.x)).len (sl st (rr y.x)) w)
    have h0 := (by assumption : y.e = 0)
    exact (cp_chk hc.2).trans (e_0 hy h0).2.2.2.1
  · skip
    have hy := (by assumption : eI st _ y)
    have hc := (by assumption : (sl st (rr y.x)).len ≠ 0 ∧ CS (sl st (rr y.x)).len (sl st (rr y.x)) w)
    have h0 := (by assumption : y.e = 0)
    exact e_tm hy h0
  · skip
    have hy := (by assumption : eI st _ y)
    have hc := (by assumption : (sl st (rr y.x)).len ≠ 0 ∧ CS (sl st (rr y.x)).len (sl st (rr y.x)) w)
    have h0 := (by assumption : y.e = 0)
    have hg := (e_0 hy h0).1
    (conv => whnf); refine enter_mk (la := la27 st l _) ⟨y.x.i, y.x.now, y.x.gl, sl st (rr y.x), y.x.ga, turnR (sl st (rr y.x)) (mx (st.now (rr y.x)) (sl st (rr y.x)).base), y.x.gfr, true⟩ ?_ (by (repeat' (first | ((conv => whnf); first | refine ⟨?_, ?_⟩ | exact trivial | fail) | (dsimp only; done) | ((try dsimp only); first | with_reducible exact rfl | exact Nat.le_refl _ | with_reducible exact (fun _ _ => rfl)))); all_goals ((first | rfl | exact fun _ _ => rfl | exact hg.symm | exact hg | exact tR_cp | exact tR_cp.symm)))
    exact e_turn hs hy h0 (if_neg (fun ⟨h1, h2⟩ => absurd (h1.symm.trans (by assumption : y.x.w = false)) (by decide))).symm
  · skip
    have hy := (by assumption : eI st _ y)
    have hg := e_n0 hy (by assumption)
    (conv => whnf); refine enter_mk (la := la27 st l _) y.x ?_ (by (repeat' (first | ((conv => whnf); first | refine ⟨?_, ?_⟩ | exact trivial | fail) | (dsimp only; done) | ((try dsimp only); first | with_reducible exact rfl | exact Nat.le_refl _ | with_reducible exact (fun _ _ => rfl)))); all_goals ((first | rfl | exact fun _ _ => rfl | exact hg.2 | exact hg.2.symm)))
    exact ⟨hg.1, hy.1, hy.2.1⟩
  · skip
    have hx := (by assumption : hI st x ∧ (x.i : Int) = _ ∧ x.i < st.len)
    (conv => whnf); refine enter_mk (la := la27 st l _) x ?_ (by (repeat' (first | ((conv => whnf); first | refine ⟨?_, ?_⟩ | exact trivial | fail) | (dsimp only; done) | ((try dsimp only); first | with_reducible exact rfl | exact Nat.le_refl _ | with_reducible exact (fun _ _ => rfl)))); all_goals ((first | rfl | exact fun _ _ => rfl)))
    exact hx
  · skip
    have hx := (by assumption : hI st x ∧ (x.i : Int) = _ ∧ x.i < st.len)
    (conv => whnf); refine enter_mk (la := la30 st l _) ⟨⟨x.i, x.come, x.gl, x.come, x.ga, x.fr, x.gfr, false⟩, true⟩ ?_ (by (repeat' (first | ((conv => whnf); first | refine ⟨?_, ?_⟩ | exact trivial | fail) | (dsimp only; done) | ((try dsimp only); first | with_reducible exact rfl | exact Nat.le_refl _ | with_reducible exact (fun _ _ => rfl)))); all_goals ((first | rfl | exact fun _ _ => rfl | exact Eq.symm (by assumption))))
    exact t_yes hx (by assumption) (by assumption)
  · skip
    have hx := (by assumption : hI st x ∧ (x.i : Int) = _ ∧ x.i < st.len)
    (conv => whnf); refine enter_mk (la := la30 st l _) ⟨x, x.w⟩ ?_ (by (repeat' (first | ((conv => whnf); first | refine ⟨?_, ?_⟩ | exact trivial | fail) | (dsimp only; done) | ((try dsimp only); first | with_reducible exact rfl | exact Nat.le_refl _ | with_reducible exact (fun _ _ => rfl)))); all_goals ((first | rfl | exact fun _ _ => rfl)))
    exact t_no hx (fun _ => by assumption)
  · skip
    have hx := (by assumption : hI st x ∧ (x.i : Int) = _ ∧ x.i < st.len)
    (conv => whnf); refine enter_mk (la := la30 st l _) ⟨x, x.w⟩ ?_ (by (repeat' (first | ((conv => whnf); first | refine ⟨?_, ?_⟩ | exact trivial | fail) | (dsimp only; done) | ((try dsimp only); first | with_reducible exact rfl | exact Nat.le_refl _ | with_reducible exact (fun _ _ => rfl)))); all_goals ((first | rfl | exact fun _ _ => rfl)))
    exact t_no hx (fun h1 => absurd (h1.symm.trans (by assumption : x.w = false)) (by decide))
  · skip
    have hv := (by assumption : tI st _ v)
    exact gv_n (t_a hv).2
  · skip
    have hv := (by assumption : tI st _ v)
    exact gv_m (t_a hv).2
  · skip
    have hv := (by assumption : tI st _ v)
    obtain ⟨h1, h2, h3⟩ := t_w hv (by assumption) (by assumption)
    (conv => whnf); refine enter_mk (la := la31 st l _) ⟨⟨v.x.i, v.x.now, v.x.ga, v.x.come, g0, v.x.fr, 0, false⟩, ⟨_, _, _, _, _, _, _⟩⟩ ?_ (by (repeat' (first | ((conv => whnf); first | refine ⟨?_, ?_⟩ | exact trivial | fail) | (dsimp only; done) | ((try dsimp only); first | with_reducible exact rfl | exact Nat.le_refl _ | with_reducible exact (fun _ _ => rfl)))); all_goals ((first | rfl | exact fun _ _ => rfl | exact h1 | exact h1.symm)))
    exact ⟨h2, cpy_v _ (t_a hv).2 (by assumption) (by assumption), sm_trans (cpy_sm _ _ _) h3⟩
  · skip
    have hv := (by assumption : tI st _ v)
    exact gv_n (t_a hv).1
  · skip
    have hv := (by assumption : tI st _ v)
    exact gv_m (t_a hv).1
  · skip
    have hv := (by assumption : tI st _ v)
    obtain ⟨h1, h2, h3⟩ := t_s hv (.inl (by assumption))
    (conv => whnf); refine enter_mk (la := la31 st l _) ⟨v.x, ⟨_, _, _, _, _, _, _⟩⟩ ?_ (by (repeat' (first | ((conv => whnf); first | refine ⟨?_, ?_⟩ | exact trivial | fail) | (dsimp only; done) | ((try dsimp only); first | with_reducible exact rfl | exact Nat.le_refl _ | with_reducible exact (fun _ _ => rfl)))); all_goals ((first | rfl | exact fun _ _ => rfl | exact h1 | exact h1.symm)))
    exact ⟨h2, cpy_v _ (t_a hv).1 (by assumption) (by assumption), sm_trans (cpy_sm _ _ _) h3⟩
  · skip
    have hv := (by assumption : tI st _ v)
    exact gv_n (t_a hv).1
  · skip
    have hv := (by assumption : tI st _ v)
    exact gv_m (t_a hv).1
  · skip
    have hv := (by assumption : tI st _ v)
    obtain ⟨h1, h2, h3⟩ := t_s hv (.inr (by assumption))
    (conv => whnf); refine enter_mk (la := la31 st l _) ⟨v.x, ⟨_, _, _, _, _, _, _⟩⟩ ?_ (by (repeat' (first | ((conv => whnf); first | refine ⟨?_, ?_⟩ | exact trivial | fail) | (dsimp only; done) | ((try dsimp only); first | with_reducible exact rfl | exact Nat.le_refl _ | with_reducible exact (fun _ _ => rfl)))); all_goals ((first | rfl | exact fun _ _ => rfl | exact h1 | exact h1.symm)))
    exact ⟨h2, cpy_v _ (t_a hv).1 (by assumption) (by assumption), sm_trans (cpy_sm _ _ _) h3⟩
  · skip
    have hz := (by assumption : (hI st z.x ∧ (z.x.i : Int) = _ ∧ z.x.i < st.len) ∧ Gv z.lc ∧ SmG z.lc z.x.now)
    exact gv_gw hz.2.1
  · skip
    have hz := (by assumption : (hI st z.x ∧ (z.x.i : Int) = _ ∧ z.x.i < st.len) ∧ Gv z.lc ∧ SmG z.lc z.x.now)
    exact gv_gw hz.1.1.2.1
  · skip
    have hz := (by assumption : (hI st z.x ∧ (z.x.i : Int) = _ ∧ z.x.i < st.len) ∧ Gv z.lc ∧ SmG z.lc z.x.now)
    exact hz.2.2
  · skip
    exact absurd (by assumption : (!z.x.w == z.x.w) = true) (by generalize z.x.w = b; cases b <;> decide)
  · skip
    have hz := (by assumption : (hI st z.x ∧ (z.x.i : Int) = _ ∧ z.x.i < st.len) ∧ Gv z.lc ∧ SmG z.lc z.x.now)
    exact absurd (hz.1.1.2.2.2.2.2.2 (by assumption)).2 (by assumption)
  · skip
    have hz := (by assumption : (hI st z.x ∧ (z.x.i : Int) = _ ∧ z.x.i < st.len) ∧ Gv z.lc ∧ SmG z.lc z.x.now)
    exact gv_gw hz.1.1.2.2.2.2.1
  · skip
    have hz := (by assumption : (hI st z.x ∧ (z.x.i : Int) = _ ∧ z.x.i < st.len) ∧ Gv z.lc ∧ SmG z.lc z.x.now)
    exact gv_gw hz.1.1.2.2.2.1
  · skip
    have hz := (by assumption : (hI st z.x ∧ (z.x.i : Int) = _ ∧ z.x.i < st.len) ∧ Gv z.lc ∧ SmG z.lc z.x.now)
    exact (hz.1.1.2.2.2.2.2.2 (by assumption)).1
  · skip
    have hz := (by assumption : (hI st z.x ∧ (z.x.i : Int) = _ ∧ z.x.i < st.len) ∧ Gv z.lc ∧ SmG z.lc z.x.now)
    (conv => whnf); refine enter_mk (la := la33 st l _) z ?_ (by (repeat' (first | ((conv => whnf); first | refine ⟨?_, ?_⟩ | exact trivial | fail) | (dsimp only; done) | ((try dsimp only); first | with_reducible exact rfl | exact Nat.le_refl _ | with_reducible exact (fun _ _ => rfl)))); all_goals ((first | rfl | exact fun _ _ => rfl)))
    exact ⟨hz.1, hz.2.1⟩
  · skip
    have hz := (by assumption : (hI st z.x ∧ (z.x.i : Int) = _ ∧ z.x.i < st.len) ∧ Gv z.lc ∧ SmG z.lc z.x.now)
    (conv => whnf); refine enter_mk (la := la33 st l _) z ?_ (by (repeat' (first | ((conv => whnf); first | refine ⟨?_, ?_⟩ | exact trivial | fail) | (dsimp only; done) | ((try dsimp only); first | with_reducible exact rfl | exact Nat.le_refl _ | with_reducible exact (fun _ _ => rfl)))); all_goals ((first | rfl | exact fun _ _ => rfl)))
    exact ⟨hz.1, hz.2.1⟩
  · skip
    have hz := (by assumption : (hI st z.x ∧ (z.x.i : Int) = _ ∧ z.x.i < st.len) ∧ Gv z.lc)
    (conv => whnf); refine enter_mk (la := la34 st l _) ⟨z.x, z.lc, 0⟩ ?_ (by (repeat' (first | ((conv => whnf); first | refine ⟨?_, ?_⟩ | exact trivial | fail) | (dsimp only; done) | ((try dsimp only); first | with_reducible exact rfl | exact Nat.le_refl _ | with_reducible exact (fun _ _ => rfl)))); all_goals ((first | rfl | exact fun _ _ => rfl)))
    exact ⟨hz.1, ⟨Nat.zero_le _, gv_len hz.2⟩, (gv_gw hz.2).out.2.2.2.1⟩
  · skip
    have hu := (by assumption : (hI st u.x ∧ (u.x.i : Int) = _ ∧ u.x.i < st.len) ∧ (u.j ≤ u.lc.len ∧ u.lc.len ≤ 100) ∧ u.lc.len ≤ u.lc.N)
    have hc := i_cnt (i := u.j) rfl (by have := hu.2.1.2; omega)
    have hm : u.lc.len - (u.j + 1) < u.lc.len - u.j := by omega
    (conv => whnf); refine enter_mk (la := la34 st l _) ⟨u.x, ⟨u.lc.base, u.lc.cyc, u.lc.len, u.lc.cap, u.lc.N, _, u.lc.ln⟩, u.j + 1⟩ ?_ (by (repeat' (first | ((conv => whnf); first | refine ⟨?_, ?_⟩ | exact trivial | fail) | (dsimp only; done) | ((try dsimp only); first | with_reducible exact rfl | exact Nat.le_refl _ | with_reducible exact (fun _ _ => rfl)))); all_goals ((first | rfl | exact fun _ _ => rfl | exact hc | exact hm)))
    exact ⟨hu.1, ⟨(by show u.j + 1 ≤ u.lc.len; omega), hu.2.1.2⟩, hu.2.2⟩
  · skip
    have hu := (by assumption : (hI st u.x ∧ (u.x.i : Int) = _ ∧ u.x.i < st.len) ∧ (u.j ≤ u.lc.len ∧ u.lc.len ≤ 100) ∧ u.lc.len ≤ u.lc.N)
    have hc := i_cnt hu.1.2.1 (by have := hu.1.1.1.2; omega)
    have hm : ∀ k : Nat, (u.x.i : Int) = k → st.len - (u.x.i + 1) < st.len - k := fun k hk => by have := hu.1.2.2; omega
    (conv => whnf); refine enter_mk (la := laH st l) ⟨u.x.i + 1, u.x.now, u.x.gl, u.x.come, u.x.ga, u.x.fr, u.x.gfr, u.x.w⟩ ?_ (by (repeat' (first | ((conv => whnf); first | refine ⟨?_, ?_⟩ | exact trivial | fail) | (dsimp only; done) | ((try dsimp only); first | with_reducible exact rfl | exact Nat.le_refl _ | with_reducible exact (fun _ _ => rfl)))); all_goals ((first | rfl | exact fun _ _ => rfl | exact hc | exact hm _ hu.1.2.1)))
    exact h_next hu.1.1 hu.1.2.2
end

theorem own : ownKnob Try.prog.godebug = none := by kernel_rfl

set_option maxRecDepth 100000 in
theorem lifted (os : Os) (started : os.Started) (H : Type) (enc : TypeId × Value → H) :
    ReturnsInHanded {} Try.checked os 7 .any (Rows.gatesChangesSpec.pre6 enc Try.prog Try.f7 Rows.gatesChangesRow.domain false) (Rows.gatesChangesSpec.post enc Try.prog Try.f7 false true false false) := by
  refine returnsInHanded_of_change (C := Try.checked) own started (by kernel_rfl) Try.func7
    (ChangeSpec.witness6 (enc := enc) (C := Try.checked) false ⟨#[], #[.agg #[.int .i64 0, .int .i64 0, .slice none 0 0], .slice none 0 0], []⟩ 8 (by kernel_rfl) (by kernel_rfl) (by kernel_rfl) (by kernel_rfl)) ?_
  intro W base args ds gs before hval0 hW hcnd _
  have hval : ∀ (j : Nat) t v, Try.f7.params[j]? = some t → args[j]? = some v → Value.okWide Try.prog W .any base t v := hval0
  have hW' := hW
  obtain ⟨p, q, hA0, hV, rfl, hfz, hnd⟩ := hW
  have hA : DataW.TrodAll enc Try.prog W 0 (fun _ => true) true Try.f7.params.toList args.toList ds p := hA0
  rw [Try.params7] at hA hval
  obtain ⟨v0, vs0, d0, ds0, p0, q0, hargs0, rfl, rfl, h0, r0⟩ := trodAll_cons hA
  obtain ⟨v1, vs1, d1, ds1, p1, q1, hargs1, rfl, rfl, h1, r1⟩ := trodAll_cons r0
  obtain ⟨rfl, rfl, rfl⟩ := trodAll_nil r1
  obtain ⟨rfl, rfl⟩ := trodVars_none hV
  obtain rfl : args = #[v0, v1] := by cases args; simp_all
  obtain ⟨A1, n1, c1, s1⟩ := sliceM_open (d := 6) (ss := [.num none, .num (some .i64), .num (some .i64), .sl [some .i64, some .i64], .num (some .i64)]) Try.underlying45 (by kernel_rfl) (by kernel_rfl) (hval 1 45 v1 rfl rfl) h1
  obtain ⟨cs0, hv0, hl0, hc0⟩ := mix_agg (d := 6) (ss := [.num (some .i64), .num (some .i64), .sl [some .i64, some .i64]]) Try.underlying24 (by kernel_rfl) (by kernel_rfl) (hval 0 24 v0 rfl rfl) h0
  have g0_0 := listMix_of hl0 hc0
  clear hl0 hc0
  obtain ⟨_, cs0_1, rfl, ⟨b0_0, rfl, w0_0⟩, g0_1⟩ := listMix_cons g0_0
  obtain ⟨_, cs0_2, rfl, ⟨b0_1, rfl, w0_1⟩, g0_2⟩ := listMix_cons g0_1
  obtain ⟨u0_2, cs0_3, rfl, ⟨A0_2, n0_2, c0_2, s0_2⟩, g0_3⟩ := listMix_cons g0_2
  obtain rfl := listMix_nil g0_3
  subst hv0
  refine Calls.mono (law_calls mixed Try.func7 (runs ⟨b0_0, b0_1, n0_2, c0_2, n0_2, fun r => intC W A0_2 (r * 2 + 0), fun r => intC W A0_2 (r * 2 + 1)⟩ (sdOf W A1 n1 c1) (gw_of w0_0 w0_1 s0_2) (sd_w s1)) (e := envOf [A0_2, A1, some default]) (rel_in2o s0_2.reg s1.reg (sd_q s1)) (Nat.le_refl 3) (by rw [s0_2.val, s1.val]; exact den_sd.symm)) fun e W' ⟨he, hb⟩ => ?_
  subst he
  exact ⟨_, rfl, law_post hW' rfl rfl (by kernel_rfl) (by decide +kernel) rfl Try.underlying4 hb⟩

theorem over : Rows.gatesChangesRow.holds Try.pinned (OpenSpec.ofChange Rows.gatesChangesSpec) :=
  OpenClaim.holds_of_wide 7 Try.f7 rfl rfl rfl rfl rfl rfl rfl ⟨rfl, rfl, rfl, rfl, rfl⟩ rfl rfl rfl rfl rfl (by kernel_rfl) Try.func7 (by kernel_rfl)
    (of_decide_eq_true (by kernel_rfl)) (by unfold Func.isWrapper; first | (rw [if_pos (by decide +kernel)]; kernel_rfl) | (rw [if_neg (by decide +kernel)]; exact ⟨rfl, rfl⟩))
    (fun os started H enc _ => lifted os started H enc)

/-- GatesChanges -/
theorem proved : Rows.GatesChangesSaid := over
#print axioms proved
end Go.Proofs.Ytkehcpafbkmapaa.gatesChanges
