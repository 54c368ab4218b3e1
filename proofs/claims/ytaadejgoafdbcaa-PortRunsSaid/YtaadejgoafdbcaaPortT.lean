/-
  Contracts of functions, and plain facts about them, that a claim of this seat uses.
-/
import Derived.Test.YtaadejgoafdbcaaSx
import Derived.Test.YtaadejgoafdbcaaPortS
import Derived.Test.YtaadejgoafdbcaaProg
namespace Go.Proofs.Ytaadejgoafdbcaa
open Go.Sx
set_option linter.unusedVariables false
set_option linter.unusedSimpArgs false
set_option maxRecDepth 100000

/-! PortRuns: what stands in memory, and why it stays so. -/
/-- the steps -/
structure SD where
  len : Nat
  cap : Nat
  N : Nat
  kd : Nat → Int
  c : Nat → Int
  id : Nat → Int
  sz : Nat → Int
  dr : Nat → Bool
  d : Nat → Int
  b : Nat → Int
  cy : Nat → Int
  A : Nat → Option Addr
  n : Nat → Nat
  k : Nat → Nat
  F : Value → Nat → Int
  G : Value → Nat → Int
def slv (st : SD) (r : Nat) : Value := .slice (st.A r) (st.n r) (st.k r)
def sl (st : SD) (r : Nat) : GL := ⟨st.b r, st.cy r, st.n r, st.k r, st.n r, st.F (slv st r), st.G (slv st r)⟩
def Qs (st : SD) (v : Value) : Prop := ∃ r, r < st.len ∧ v = slv st r
def css (st : SD) (v : Value) : List Col := [.int .i64 (st.F v), .int .i64 (st.G v)]
def roS (st : SD) : Option Reg := some ⟨false, .tab st.N [.int .i64 st.kd, .int .i64 st.c, .int .i64 st.id, .int .i64 st.sz, .bool st.dr, .int .i64 st.d, .int .i64 st.b, .int .i64 st.cy, .val (slv st)]⟩
def opR (st : SD) : Option Reg := some ⟨false, .obj 0 {} (openI (Qs st) (css st))⟩
def Sw (st : SD) : Prop := (st.len ≤ st.cap ∧ st.len ≤ st.N ∧ st.cap ≤ 9223372036854775807) ∧ ∀ r, r < st.len → Gw (sl st r)
/-! what comes in -/
theorem gw_of {w : World} {b c : Int} {v : Value} {A : Option Addr} {n cap : Nat} (hb : (Lit.int .i64 b).wf = true) (hc : (Lit.int .i64 c).wf = true) (s : Slc w v [some .i64, some .i64] A n cap) : Gw ⟨b, c, n, cap, n, fun r => intC w A (r * 2 + 0), fun r => intC w A (r * 2 + 1)⟩ :=
  Gw.mk ⟨i64_of hb, i64_of hc, s.le, Nat.le_refl _, s.max, fun i hi => ⟨i64_of (s.wf 0 .i64 rfl i hi), i64_of (s.wf 1 .i64 rfl i hi)⟩⟩
def sdOf (w : World) (A : Option Addr) (n c : Nat) : SD := ⟨n, c, n, fun r => intC w A (r * 9 + 0), fun r => intC w A (r * 9 + 1), fun r => intC w A (r * 9 + 2), fun r => intC w A (r * 9 + 3), fun r => boolC w A (r * 9 + 4), fun r => intC w A (r * 9 + 5), fun r => intC w A (r * 9 + 6), fun r => intC w A (r * 9 + 7), fun r => slA (rawC w A (r * 9 + 8)), fun r => slN (rawC w A (r * 9 + 8)), fun r => slK (rawC w A (r * 9 + 8)), fun v r => intC w (slA v) (r * 2 + 0), fun v r => intC w (slA v) (r * 2 + 1)⟩
def sdSh : List Sh := [.num (some .i64), .num (some .i64), .num (some .i64), .num (some .i64), .num none, .num (some .i64), .num (some .i64), .num (some .i64), .sl [some .i64, some .i64]]
theorem sd_w {w : World} {v : Value} {A : Option Addr} {n c : Nat} (s : SlcM w v sdSh A n c) : Sw (sdOf w A n c) :=
  ⟨⟨s.le, Nat.le_refl _, s.max⟩, fun r hr => gw_of (s.wf 6 .i64 rfl r hr) (s.wf 7 .i64 rfl r hr) (s.sub 8 _ rfl r hr)⟩
theorem sd_q {w : World} {v : Value} {A : Option Addr} {n c : Nat} (s : SlcM w v sdSh A n c) (u : Value) (hu : Qs (sdOf w A n c) u) : ∃ A' n' k, u = .slice A' n' k ∧ ∀ e, RegOK e w A' ⟨false, .tab n' (css (sdOf w A n c) u)⟩ := by
  obtain ⟨r, hr, rfl⟩ := hu
  exact ⟨_, _, _, rfl, (s.sub 8 _ rfl r hr).reg⟩
def G1a (l : GL) : SV := .one (.agg [i_ l.base, i_ l.cyc, .slc 0 2 0 l.len l.cap])
theorem den_sd {b c a : Int} {A B D : Option Addr} {n cap N m k : Nat} {f g : Nat → Int} : #[(G1a ⟨b, c, n, cap, N, f, g⟩).den (envOf [A, B, D]), SV.den (envOf [A, B, D]) (int_ .i64 a), SV.den (envOf [A, B, D]) (.one (.a (.slc 1 9 0 m k)))] = #[.agg #[.int .i64 b, .int .i64 c, .slice A n cap], .int .i64 a, .slice B m k] := by
  show #[Value.agg ([_, _, SA.den (envOf [A, B, D]) (.slc 0 2 0 n cap)].toArray), _, SA.den (envOf [A, B, D]) (.slc 1 9 0 m k)] = _
  rw [den_slc (A := A) rfl, den_slc (A := B) rfl]; rfl
/-! memory -/
/-- the port, and the law's list, the one to come, when, whether -/
structure PX where
  i : Nat
  p : Pt
  h : Gs
  now : Int
def rr (x : PX) : Nat := 0 + (x.i : Int).toNat
def lC (j : Nat) (l : GL) : List SA := [i_ l.base, i_ l.cyc, .slc j 2 0 l.len l.cap]
def sC (st : SD) (r : Nat) : List SA := [i_ (st.kd r), i_ (st.c r), i_ (st.id r), i_ (st.sz r), b_ (st.dr r), i_ (st.d r), i_ (sl st r).base, i_ (sl st r).cyc, .slc 10 2 0 (sl st r).len (sl st r).cap]
noncomputable def pM (st : SD) (l : GL) (p : Pt) (q : Ln) (h : Gs) (t : Mem) : Mem := roG l :: roS st :: opR st :: some ⟨true, .obj 69 (ptP p) (boxI ptK)⟩ :: some ⟨true, .obj 15 (lnP q) (boxI lnK)⟩ :: some ⟨true, .flat (lC 7 h.l)⟩ :: some ⟨true, .flat (lC 8 h.a)⟩ :: roG h.l :: roG h.a :: t
def tS (st : SD) (n : Int) (x : PX) (l : Slots) : Slots := (7, .one (.a (.ptr 3 0))) :: (14, .one (.a (.ptr 4 0))) :: (16, int_ .i64 x.now) :: (17, .one (.a (.ptr 5 0))) :: (18, .one (.a (.ptr 6 0))) :: (19, int_ .i64 x.h.fr) :: (20, .one (.a (.v (.bool x.h.wait)))) :: (123, .one (.a (.slc 1 9 0 st.len st.cap))) :: (124, int_ .i64 st.len) :: (125, int_ .i64 n) :: l
def cix (S : St) (t c : Nat) : Nat := match S.m[S.ix t]? with | some (some ⟨_, .flat l⟩) => (match l[c]? with | some (.slc i _ _ _ _) => i | _ => 0) | _ => 0
def gsP (S : St) : List GC := [.own (S.ix 17) 2 2 slCols, .own (S.ix 18) 2 2 slCols]
def renP (S : St) (l : List Nat) : List Nat := 0 :: 1 :: 2 :: S.ix 7 :: S.ix 14 :: S.ix 17 :: S.ix 18 :: cix S 17 2 :: cix S 18 2 :: l
/-- what always holds -/
def pR (st : SD) (x : PX) : Prop := (0 ≤ x.now ∧ st.len ≤ 80) ∧ (Gw x.h.l ∧ chk x.h.l = 0) ∧ (Gw x.h.a ∧ (x.h.wait = true → chk x.h.a = 0)) ∧ (Gw x.p.l ∧ Gw x.p.a) ∧ SimG x.p.g x.h x.now
theorem pR_out {st : SD} {x : PX} (h : pR st x) : (0 ≤ x.now ∧ st.len ≤ 80) ∧ (Gw x.h.l ∧ chk x.h.l = 0) ∧ (Gw x.h.a ∧ (x.h.wait = true → chk x.h.a = 0)) ∧ (Gw x.p.l ∧ Gw x.p.a) ∧ SimG x.p.g x.h x.now := h
noncomputable abbrev laH (st : SD) (l : GL) : LA where
  ι := PX
  inv := fun x => pR st x ∧ x.i ≤ st.len ∧ x.now ≤ 1073741824 * x.i
  T := fun x => ⟨296, tS st x.i x [], pM st l x.p x.p.q x.h []⟩
  μ := fun x => st.len - x.i
  ren := fun S => renP S []
  gs := gsP
noncomputable abbrev la24 (st : SD) (l : GL) (n : Int) : LA where
  ι := PX
  inv := fun x => pR st x ∧ ((x.i : Int) = n ∧ x.i < st.len) ∧ x.now ≤ 1073741824 * x.i
  T := fun x => ⟨296, tS st n x [(22, .one (.a (.ptr 9 0)))], pM st l x.p x.p.q x.h [some ⟨true, .flat (sC st (rr x))⟩, roG (sl st (rr x))]⟩
  μ := fun _ => 0
  ren := fun S => renP S [S.ix 22, cix S 22 8]
  gs := fun S => [.opn 2 (S.ix 22) 8 2 (Qs st) (css st)]
def s28 (st : SD) (n : Int) (x : PX) : Prop := ((x.i : Int) = n ∧ x.i < st.len) ∧ (sl st (rr x)).len ≤ 64 ∧ ¬ swB x.h x.now
/-- turned, if it is time -/
noncomputable abbrev la28 (st : SD) (l : GL) (n : Int) : LA where
  ι := PX
  inv := fun x => pR st x ∧ s28 st n x ∧ x.now ≤ 1073741824 * x.i ∧ 0 ≤ st.d (rr x) ∧ st.d (rr x) ≤ 1073741824
  T := fun x => ⟨296, tS st n x [(22, .one (.a (.ptr 9 0)))], pM st l x.p x.p.q x.h [some ⟨true, .flat (sC st (rr x))⟩, roG (sl st (rr x))]⟩
  μ := fun _ => 0
  ren := fun S => renP S [S.ix 22, cix S 22 8]
  gs := fun S => gsP S ++ [.own (S.ix 22) 8 2 slCols]
/-- later, and turned -/
noncomputable abbrev la37 (st : SD) (l : GL) (n : Int) : LA where
  ι := PX
  inv := fun x => pR st x ∧ s28 st n x ∧ x.now ≤ 1073741824 * x.i + 1073741824
  T := fun x => ⟨296, tS st n x [(22, .one (.a (.ptr 9 0)))], pM st l x.p x.p.q x.h [some ⟨true, .flat (sC st (rr x))⟩, roG (sl st (rr x))]⟩
  μ := fun _ => 0
  ren := fun S => renP S [S.ix 22, cix S 22 8]
  gs := fun S => gsP S ++ [.own (S.ix 22) 8 2 slCols]
noncomputable abbrev la63 (st : SD) (l : GL) (n : Int) : LA where
  ι := PX
  inv := fun x => pR st x ∧ ((x.i : Int) = n ∧ x.i < st.len) ∧ x.now ≤ 1073741824 * x.i + 1073741824
  T := fun x => ⟨296, tS st n x [], pM st l x.p x.p.q x.h []⟩
  μ := fun _ => 0
  ren := fun S => renP S []
  gs := gsP
/-- which class goes, by the law's gates -/
def oK (q : Ln) (h : Gs) (now : Int) : Option Nat := pk q (lf8 h.l h.fr h.wait now)
structure KX where
  x : PX
  q : Ln
  j : Nat
  g : Nat → Int
def lfOK (h : Gs) (now : Int) (j : Nat) (g : Nat → Int) : Prop := ∀ c, c < j → g c = lfV h.l h.fr h.wait now c
noncomputable abbrev la40 (st : SD) (l : GL) (n : Int) : LA where
  ι := KX
  inv := fun x => pR st x.x ∧ (((x.x.i : Int) = n ∧ x.x.i < st.len) ∧ x.x.now ≤ 1073741824 * x.x.i + 1073741824) ∧ x.x.p.q = popL x.q (oK x.q x.x.h x.x.now) ∧ x.j ≤ 8 ∧ lfOK x.x.h x.x.now x.j x.g
  T := fun x => ⟨296, tS st n x.x [(23, .one (.a (.ptr 9 0))), (24, int_ .i64 (pkC (oK x.q x.x.h x.x.now))), (25, .one (.a (b_ (pkB (oK x.q x.x.h x.x.now))))), (26, .one (.a (.ptr 10 0))), (189, int_ .i64 x.j)], pM st l x.x.p x.q x.x.h [some ⟨true, .flat (itL (pkI x.q (oK x.q x.x.h x.x.now)))⟩, some ⟨true, .tab 8 [.int .i64 x.g]⟩]⟩
  μ := fun x => 8 - x.j
  ren := fun S => renP S [S.ix 23, S.ix 26]
  gs := fun S => .rows (S.ix 26) 1 8 :: gsP S
structure CX where
  x : PX
  c : Nat
noncomputable abbrev la64 (st : SD) (l : GL) (n : Int) : LA where
  ι := CX
  inv := fun x => (pR st x.x ∧ ((x.x.i : Int) = n ∧ x.x.i < st.len) ∧ x.x.now ≤ 1073741824 * x.x.i + 1073741824) ∧ x.c ≤ 8
  T := fun x => ⟨296, tS st n x.x [(32, int_ .i64 x.c)], pM st l x.x.p x.x.p.q x.x.h []⟩
  μ := fun x => 8 - x.c
  ren := fun S => renP S []
def mx (a b : Int) : Int := if a < b then b else a
theorem rr_lt {st : SD} {x : PX} (h : x.i < st.len) : rr x < st.len := by unfold rr; omega
theorem p_new {st : SD} {l : GL} {a : A8} {y : CL} (hl : Gw l) (hc : chk l = 0) (hy : CS l.len l y) (hn : ¬ (80 : Int) < st.len) : pR st ⟨0, pn0 l a y, ⟨l, glN, 0, false⟩, 0⟩ := by
  refine ⟨⟨Int.le_refl _, by omega⟩, ⟨hl, hc⟩, ⟨glN_gw, fun hh => (by cases hh)⟩, ⟨(show Gw (cp l y) from cp_gw hy hl), glN_gw⟩, ?_⟩
  show SimG ⟨cp l y, glN, 0, false⟩ ⟨l, glN, 0, false⟩ 0
  rw [SimG, vL_no (g := ⟨cp l y, glN, 0, false⟩) (fun hh => (by cases hh.1)), vL_no (g := ⟨l, glN, 0, false⟩) (fun hh => (by cases hh.1))]
  exact ⟨cp_sm hy, ⟨fun hh => (by cases hh.1), fun hh => (by cases hh.1)⟩, fun hh => (by cases hh.1)⟩
theorem p_law {st : SD} {x : PX} (h : pR st x) (hw : swB x.h x.now) : pR st ⟨x.i, x.p, ⟨x.h.a, x.h.a, x.h.fr, false⟩, x.now⟩ := by
  obtain ⟨h1, h2, h3, h4, h5⟩ := pR_out h
  exact ⟨h1, ⟨h3.1, h3.2 hw.1⟩, ⟨h3.1, fun hh => (by cases hh)⟩, h4, sim_law h5 hw⟩
theorem p_time {st : SD} {x : PX} {d : Int} (h : pR st x) (hd : 0 ≤ d) : pR st ⟨x.i, x.p, x.h, x.now + d⟩ := by
  obtain ⟨h1, h2, h3, h4, h5⟩ := pR_out h
  exact ⟨⟨by show 0 ≤ x.now + d; omega, h1.2⟩, h2, h3, h4, sim_next h5 (by show x.now ≤ x.now + d; omega)⟩
theorem p_q {st : SD} {x : PX} (q : Ln) (h : pR st x) : pR st ⟨x.i, ptQ x.p q, x.h, x.now⟩ := h
theorem gw_v {st : SD} {x : PX} (h : pR st x) : Gw (vL x.p.g x.now) := by
  obtain ⟨h1, h2, h3, h4, h5⟩ := pR_out h
  unfold vL
  split
  · exact h4.2
  · exact h4.1
theorem p_nx {st : SD} {x : PX} (h : pR st x) (hn : ¬ swB x.h x.now) : nxO x.p x.now = oK x.p.q x.h x.now ∧ pR st ⟨x.i, nxP x.p x.now, x.h, x.now⟩ := by
  obtain ⟨h1, h2, h3, h4, h5⟩ := pR_out h
  refine ⟨by unfold nxO oK; rw [lfA_sim h5 hn (gw_v h)], h1, h2, h3, ?_, sim_at h5⟩
  show Gw (atG x.p.g x.now).l ∧ Gw (atG x.p.g x.now).a
  by_cases hs : swB x.p.g x.now
  · rw [atG_sw hs]; exact ⟨h4.2, glN_gw⟩
  · rw [atG_no hs]; exact h4
theorem t_in {st : SD} {x : PX} (hw : Gw (sl st (rr x))) (hc : chk (sl st (rr x)) = 0) (h0 : 0 ≤ x.now) (h1 : x.now ≤ 1099511627776) : inR (mx x.now (sl st (rr x)).base) := by
  have ok := chk_ok hc
  have b1 := ok.b1
  have b2 := ok.b2
  unfold inR mx
  split <;> omega
theorem chF_R {l : GL} {now : Int} (h : chk l = 0) (hi : inR (mx now l.base)) : chF l now = turnR l (mx now l.base) := by
  unfold chF
  have e : mx now l.base = if now < l.base then l.base else now := rfl
  rw [e] at hi ⊢
  exact turn_R h hi
theorem p_ch {st : SD} {x : PX} {q : Ln} {y : CL} (h : pR st x) (hn : ¬ swB x.h x.now) (hw : Gw (sl st (rr x))) (hc : chk (sl st (rr x)) = 0) (h1 : x.now ≤ 1099511627776) (hy : CS (sl st (rr x)).len (sl st (rr x)) y) :
    pR st ⟨x.i, chP (atG x.p.g x.now).l (sl st (rr x)) x.now q y, ⟨x.h.l, sl st (rr x), turnR (sl st (rr x)) (mx x.now (sl st (rr x)).base), true⟩, x.now⟩ := by
  obtain ⟨a1, a2, a3, a4, a5⟩ := pR_out h
  have hF := chF_R hc (t_in hw hc a1.1 h1)
  refine ⟨a1, a2, ⟨hw, fun _ => hc⟩, ⟨?_, (show Gw (cp (sl st (rr x)) y) from cp_gw hy hw)⟩, ?_⟩
  · show Gw (atG x.p.g x.now).l
    rw [at_l]; exact gw_v h
  · show SimG ⟨(atG x.p.g x.now).l, cp (sl st (rr x)) y, chF (sl st (rr x)) x.now, true⟩ ⟨x.h.l, sl st (rr x), turnR (sl st (rr x)) (mx x.now (sl st (rr x)).base), true⟩ x.now
    rw [hF, at_l]
    generalize turnR (sl st (rr x)) (mx x.now (sl st (rr x)).base) = f
    have b1 := a5.1
    rw [vL_no hn] at b1
    by_cases hf : f ≤ x.now
    · rw [SimG, vL_sw (g := ⟨vL x.p.g x.now, cp (sl st (rr x)) y, f, true⟩) ⟨rfl, hf⟩, vL_sw (g := ⟨x.h.l, sl st (rr x), f, true⟩) ⟨rfl, hf⟩]
      exact ⟨cp_sm hy, ⟨fun hh => absurd hf hh.2, fun hh => absurd hf hh.2⟩, fun hh => absurd hf hh.2⟩
    · rw [SimG, vL_no (g := ⟨vL x.p.g x.now, cp (sl st (rr x)) y, f, true⟩) (fun hh => hf hh.2), vL_no (g := ⟨x.h.l, sl st (rr x), f, true⟩) (fun hh => hf hh.2)]
      exact ⟨b1, ⟨fun _ => ⟨rfl, hf⟩, fun _ => ⟨rfl, hf⟩⟩, fun _ => ⟨rfl, cp_sm hy⟩⟩
theorem lk_0 {h : Gs} {now : Int} {g : Nat → Int} : lfOK h now 0 g := fun c hc => absurd hc (Nat.not_lt_zero c)
theorem lk_next {h : Gs} {now : Int} {j : Nat} {g g' : Nat → Int} (h0 : lfOK h now j g) (h1 : ∀ q, q ≠ j → g' q = g q) (h2 : g' j = lfV h.l h.fr h.wait now j) : lfOK h now (j + 1) g' := fun c hc => by
  by_cases hcj : c = j
  · subst hcj; exact h2
  · rw [h1 c hcj]; exact h0 c (by omega)
theorem lk_8 {h : Gs} {now : Int} {g : Nat → Int} (hk : lfOK h now 8 g) : (⟨g 0, g 1, g 2, g 3, g 4, g 5, g 6, g 7⟩ : A8) = lf8 h.l h.fr h.wait now := by
  unfold lf8
  rw [hk 0 (by decide), hk 1 (by decide), hk 2 (by decide), hk 3 (by decide), hk 4 (by decide), hk 5 (by decide), hk 6 (by decide), hk 7 (by decide)]; rfl
theorem i_cnt {i : Nat} {n : Int} (h : (i : Int) = n) (hi : i < 100) : ((i + 1 : Nat) : Int) = IntKind.i64.wrap (n + 1) := by
  rw [w64' (by omega) (by omega)]; omega
theorem tR_cp {l : GL} {y : CL} {a : Int} : turnR (cp l y) a = turnR l a := rfl
theorem lk_n {h : Gs} {now : Int} {j : Nat} {g g2 : Nat → Int} (h0 : lfOK h now j g) (hw : h.wait = false) (hg : ∀ q, q ≠ j → g2 q = g q) (hr : g2 j = leftV h.l now j) : lfOK h now (j + 1) g2 :=
  lk_next h0 hg (by rw [hr, hw]; exact (if_neg (by decide)).symm)
theorem lk_w {h : Gs} {now : Int} {j : Nat} {g g2 : Nat → Int} (h0 : lfOK h now j g) (hw : h.wait = true) (hg : ∀ q, q ≠ j → g2 q = g q) (hr : g2 j = leftV h.l now j) :
    lfOK h now (j + 1) (fun q => if q = ((j : Nat) : Int).toNat then (if IntKind.i64.wrap (h.fr - now) < g2 ((j : Nat) : Int).toNat then IntKind.i64.wrap (h.fr - now) else g2 ((j : Nat) : Int).toNat) else g2 q) := by
  refine lk_next h0 (fun q hq => ?_) ?_
  · show (if q = ((j : Nat) : Int).toNat then _ else g2 q) = g q
    rw [if_neg (by rw [Int.toNat_natCast]; exact hq)]; exact hg q hq
  · show (if j = ((j : Nat) : Int).toNat then _ else g2 j) = _
    rw [if_pos (by rw [Int.toNat_natCast]), Int.toNat_natCast, hr, hw]
    exact (if_pos rfl).symm
theorem chE_ne {l : GL} (h : chE l = 0) : False := by
  unfold chE at h
  split at h
  · rename_i h1; exact h1 h
  · cases h
theorem ko_b {q : Ln} {o o' : Option Nat} (h : o = o') : pkB o = pkB o' := by rw [h]
/-- what is told of the gate's opening: by the reference's Stay -/
theorem lv_of {l : GL} {y : CL} {now : Int} {j : Nat} (hy : CS l.len l y) (hc : chk l = 0) (hi : inR now) (hj : j < 8) : leftV l now j = if stayV (cp l y) (phV (cp l y) now) j (oI true) = 2 * l.cyc then 2147483648 else stayV (cp l y) (phV (cp l y) now) j (oI true) := by
  have e : stayV (cp l y) (phV (cp l y) now) j (oI true) = stayV l (phV l now) j 1 := cp_stay hy (chk_ok hc) _ _ _
  rw [e]
  exact left_some ⟨hc, hi, by unfold gateR; omega⟩
theorem s_mk {st : SD} {n : Int} {x : PX} (h : (x.i : Int) = n ∧ x.i < st.len) (hl : (sl st (rr x)).len ≤ 64) (hn : ¬ swB x.h x.now) : s28 st n x := ⟨h, hl, hn⟩
theorem s_i {st : SD} {n : Int} {x : PX} (h : s28 st n x) : (x.i : Int) = n ∧ x.i < st.len := h.1
theorem s_l {st : SD} {n : Int} {x : PX} (h : s28 st n x) : (sl st (rr x)).len ≤ 64 := h.2.1
theorem s_n {st : SD} {n : Int} {x : PX} (h : s28 st n x) : ¬ swB x.h x.now := h.2.2
theorem p_wrap {st : SD} {x : PX} (h : pR st x) (hi : x.i < st.len) (hn : x.now ≤ 1073741824 * x.i) {d : Int} (hd : 0 ≤ d ∧ d ≤ 1073741824) : IntKind.i64.wrap (x.now + d) = x.now + d := by
  have := (pR_out h).1
  exact w64' (by omega) (by omega)
theorem p_max {st : SD} {x : PX} (h : pR st x) (hi : x.i < st.len) (hn : x.now ≤ 1073741824 * x.i + 1073741824) : x.now ≤ 1099511627776 := by
  have := (pR_out h).1
  omega
theorem p_ok {st : SD} {x : PX} (h : pR st x) (hi : x.i < st.len) (hn : x.now ≤ 1073741824 * x.i + 1073741824) : nxOK x.now := ⟨(pR_out h).1.1, p_max h hi hn⟩
theorem p_in {st : SD} {x : PX} (h : pR st x) (hi : x.i < st.len) (hn : x.now ≤ 1073741824 * x.i + 1073741824) : inR x.now := by
  have h1 := (pR_out h).1
  have h2 := p_max h hi hn
  unfold inR; omega
theorem tm_in {a : Int} (h : inR a) : Tm a := h
theorem nx_q {p : Pt} {h : Gs} {now : Int} (e : nxO p now = oK p.q h now) : (nxP p now).q = popL p.q (oK p.q h now) := by
  show popL p.q (nxO p now) = _
  rw [e]
theorem pk_of {q : Ln} {h : Gs} {now : Int} {g : Nat → Int} (hk : lfOK h now 8 g) : pk q ⟨g 0, g 1, g 2, g 3, g 4, g 5, g 6, g 7⟩ = oK q h now := by
  unfold oK; rw [lk_8 hk]
theorem st3g {st : SD} (hs : Sw st) {x : PX} (hi : x.i < st.len) : Gw (sl st (rr x)) := hs.2 _ (rr_lt hi)
theorem ch_e {l : GL} {now : Int} (h : ¬ chOK l now) (hn : nxOK now) : chE l = chk l := by
  unfold chE
  by_cases hc : chk l = 0
  · exact absurd ⟨hc, hn⟩ h
  · rw [if_pos hc]
theorem ch_0 {l : GL} {now : Int} (h : chOK l now) : chk l = 0 := h.1
theorem p_i {st : SD} {x : PX} (j : Nat) (h : pR st x) : pR st ⟨j, x.p, x.h, x.now⟩ := h
theorem gt_mk {j : Nat} (h : j < 8) : gateR (j : Int) := by unfold gateR; omega

end Go.Proofs.Ytaadejgoafdbcaa
