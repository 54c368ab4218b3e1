/-
  Contracts of functions, and plain facts about them, that a claim of this seat uses.
-/
import Derived.Test.YtlhlegjndembdaaSx
import Derived.Test.YtlhlegjndembdaaMgE
import Derived.Test.YtlhlegjndembdaaSeqQ
import Derived.Test.YtlhlegjndembdaaProg
namespace Go.Proofs.Ytlhlegjndembdaa
open Go.Sx
set_option linter.unusedVariables false
set_option linter.unusedSimpArgs false
set_option maxRecDepth 100000

/-! MergeRuns: the reference's ways beside the program's. -/
theorem fn33 : FnOf Try.prog 33 Try.f33 := ⟨Try.func33, rfl, rfl, mixed⟩
theorem eq46m : EqOK Try.prog 46 := by unfold EqOK; kernel_rfl
structure MS where
  len : Nat
  cap : Nat
  N : Nat
  lk : Nat → Bool
  now : Nat → Int
  way : Nat → Int
  seq : Nat → Int
def roM (a : MS) : Option Reg := some ⟨false, .tab a.N [.bool a.lk, .int .i64 a.now, .int .i64 a.way, .int .i64 a.seq]⟩
def Mw (a : MS) : Prop := (a.len ≤ a.cap ∧ a.len ≤ a.N ∧ a.cap ≤ 9223372036854775807) ∧ ∀ r, r < a.len → I6 (a.now r)
def mcV (c : MC) : SV := .one (.agg [i_ c.w, i_ c.o0, i_ c.o1, i_ c.o2, i_ c.a0, i_ c.a1, i_ c.a2, i_ c.ev, i_ c.li])
def mcL (c : MC) : Option Reg := some ⟨true, .flat [i_ c.w, i_ c.o0, i_ c.o1, i_ c.o2, i_ c.a0, i_ c.a1, i_ c.a2, i_ c.ev, i_ c.li]⟩
noncomputable def mgO (t : Mg) : Option Reg := some ⟨true, .obj 84 (mgP t) (boxI mgK)⟩
def nilF : Nat → Value := fun _ => .slice none 0 0
theorem den_mr {a b c d e f g h i t : Int} {A D : Option Addr} {n cap : Nat} : #[SV.den (envOf [A, D]) (mcV ⟨a, b, c, d, e, f, g, h, i⟩), SV.den (envOf [A, D]) (int_ .i64 t), SV.den (envOf [A, D]) (.one (.a (.slc 0 4 0 n cap)))] = #[.agg #[.int .i64 a, .int .i64 b, .int .i64 c, .int .i64 d, .int .i64 e, .int .i64 f, .int .i64 g, .int .i64 h, .int .i64 i], .int .i64 t, .slice A n cap] := by
  show #[Value.agg _, _, SA.den (envOf [A, D]) (.slc 0 4 0 n cap)] = _
  rw [den_slc (A := A) rfl]; rfl
/-- the lists: none yet -/
theorem rel_mr {w : World} {A : Option Addr} {n k : Nat} {cols : List Col} (h : ∀ e, RegOK e w A ⟨false, .tab n cols⟩) :
    Rel (envOf [A, some default]) w (fun _ => False) [some ⟨false, .tab n cols⟩, some ⟨true, .obj 7 (mkL (fun _ => 0) (fun _ => 0) (fun _ _ => 0) []) (listI k nilF)⟩] w := by
  have hO : ∀ {i x I}, IsO [some (⟨false, .tab n cols⟩ : Reg), some ⟨true, .obj 7 (mkL (fun _ => 0) (fun _ => 0) (fun _ _ => 0) []) (listI k nilF)⟩] i x I → i = 1 ∧ x = mkL (fun _ => 0) (fun _ => 0) (fun _ _ => 0) [] ∧ I = listI k nilF := by
    rintro i x I ⟨t, hi⟩
    cases i with
    | zero => cases hi
    | succ i =>
      cases i with
      | zero => cases hi; exact ⟨rfl, rfl, rfl⟩
      | succ i => simp at hi
  refine ⟨Fr.refl _ _, fun i r hi => ?_, fun i j ri rj a b hij hi hj hrw hsi hsj ha hb => ?_, fun i r a hi hrw hs ha => ?_, ⟨fun _ _ => False, fun hi => ?_, fun _ _ _ hb => hb.elim, fun _ _ _ _ hb => hb.elim, fun _ hb => hb.elim⟩, .none fun i t x I hi => ?_⟩
  · cases i with
    | zero => cases hi; exact h _
    | succ i =>
      cases i with
      | zero => cases hi; exact obj_reg
      | succ i => simp at hi
  · cases i with
    | zero => cases hi; cases hrw
    | succ i =>
      cases i with
      | zero => cases hi; exact hsi.elim
      | succ i => simp at hi
  · cases i with
    | zero => cases hi; cases hrw
    | succ i =>
      cases i with
      | zero => cases hi; exact hs.elim
      | succ i => simp at hi
  · obtain ⟨rfl, rfl, rfl⟩ := hO hi
    refine ⟨⟨_, rfl⟩, fun b hb => hb.elim, fun q hq _ => ⟨none, rfl, fun e => ⟨fun j v hv => ?_, fun es k hm => by cases hm⟩, fun b hb => by cases hb⟩, fun q q' b b' _ _ _ _ _ hb => by cases hb⟩
    simp [Con.cell, mkL, hcP] at hv
  · cases i with
    | zero => cases hi
    | succ i =>
      cases i with
      | zero => cases hi
      | succ i => simp at hi
/-- the table's columns -/
structure OC where
  way : Nat → Int
  len : Nat → Int
  reset : Nat → Int
  any : Nat → Bool
  last : Nat → Int
  B : Nat → Option Addr
  wen : Nat → Int
  k0 : Nat → Int
  k1 : Nat → Int
  k2 : Nat → Int
  k3 : Nat → Int
  resets : Nat → Int
  lost : Nat → Int
def OC.at_ (x : OC) (k : Nat) : Sq := ⟨x.way k, x.len k, x.reset k, x.any k, x.last k, 0, x.wen k, x.k0 k, x.k1 k, x.k2 k, x.k3 k, x.resets k, x.lost k⟩
def OC.cols (x : OC) (V : Nat → Value) : List Col := [.int .i64 x.way, .int .i64 x.len, .int .i64 x.reset, .bool x.any, .int .i64 x.last, .val V, .int .i64 x.wen, .int .i64 x.k0, .int .i64 x.k1, .int .i64 x.k2, .int .i64 x.k3, .int .i64 x.resets, .int .i64 x.lost]
def z0 (s : Sq) : Sq := { s with had := 0 }
theorem rW_z (s : Sq) (P : Int → Bool) (now q : Int) : rW (z0 s) P now q = { rW s P now q with s := { (rW s P now q).s with had := 0 } } := by
  have e : ∀ n, lgR (z0 s) n ↔ lgR s n := fun _ => Iff.rfl
  unfold rW
  simp only [e]
  unfold z0
  dsimp only
  repeat' split
  all_goals rfl
/-- one way: the program's window and the reference's list say the same -/
def Wy (s : Sq) (l : Nat) (g : Nat → Int) (i : Nat) : Prop := SqOK s ∧ (NilS s ∨ LstS s (hasN g l)) ∧ l ≤ i + 1 ∧ Ent g l
theorem wy_out {s : Sq} {l : Nat} {g : Nat → Int} {i : Nat} (h : Wy s l g i) : SqOK s ∧ (NilS s ∨ LstS s (hasN g l)) ∧ l ≤ i + 1 ∧ Ent g l := h
theorem wy_up {s : Sq} {l : Nat} {g : Nat → Int} {i j : Nat} (h : Wy s l g i) (hij : i ≤ j) : Wy s l g j := ⟨h.1, h.2.1, Nat.le_trans h.2.2.1 (by omega), h.2.2.2⟩
theorem wy_new {a b c now : Int} (h : CfOK (a, b, c)) (hn : I6 now) : Wy (sq0 a b c now) 0 (fun _ => 0) 0 :=
  ⟨⟨h.1, h.2.1, h.2.2, (show (0 : Int) ≤ 0 ∧ (0 : Int) ≤ 65535 by decide), hn⟩, .inl (.inr rfl), Nat.zero_le _, fun i hi => absurd hi (Nat.not_lt_zero i)⟩
/-- a number comes -/
theorem wy_step {s : Sq} {l : Nat} {g : Nat → Int} {i : Nat} {now q : Int} (h : Wy s l g i) (hn : I6 now) : ∃ b, s.in_ now q = ((rW s (hasN g l) now q).w, (rW s (hasN g l) now q).e, { (rW s (hasN g l) now q).s with had := b }) ∧
    ((rW s (hasN g l) now q).kind = 0 → Wy { (rW s (hasN g l) now q).s with had := b } l g (i + 1)) ∧ ((rW s (hasN g l) now q).kind = 1 → ∀ g', Wy { (rW s (hasN g l) now q).s with had := b } 0 g' (i + 1)) ∧
    ((rW s (hasN g l) now q).kind = 2 → ∀ y : LS, LOK y (l + 1) → (∀ k, hasN y.g y.len k = (rW s (hasN g l) now q).N k) → Wy { (rW s (hasN g l) now q).s with had := b } y.len y.g (i + 1)) := by
  obtain ⟨h1, h2, h3, h4⟩ := wy_out h
  obtain ⟨b, hg⟩ := goes (q := q) h1 hn h2
  refine ⟨b, hg.eq, fun hk => ⟨hg.ok, ?_, by omega, h4⟩, fun hk g' => ⟨hg.ok, .inl (hg.nil hk), by omega, fun i hi => absurd hi (Nat.not_lt_zero i)⟩, fun hk y hy hN => ⟨hg.ok, .inr ?_, by have := hy.2.2.1; omega, hy.2.2.2⟩⟩
  · rcases h2 with h2 | h2
    · exact .inl ((hg.keep hk).1 h2)
    · exact .inr ((hg.keep hk).2 h2)
  · rw [show hasN y.g y.len = (rW s (hasN g l) now q).N from funext hN]
    exact hg.new hk
theorem wy_r {s : Sq} {l c N : Nat} {g : Nat → Int} {i : Nat} {now : Int} (h : Wy s l g i) (hi : i ≤ 200) (hn : I6 now) (hl : l ≤ c) (hN : c ≤ N) (hm : c ≤ 9223372036854775807) : RInOK (z0 s) ⟨l, c, N, g⟩ now := by
  obtain ⟨h1, h2, h3, h4⟩ := wy_out h
  exact ⟨⟨h1.way, h1.len, h1.reset, h1.last, h1.wen⟩, hn, h4, by show l ≤ 1000; omega, ⟨hl, Nat.le_trans hl hN, hm⟩⟩
/-! memory -/
structure HX where
  i : Nat
  t : Mg
  o : OC
  cap : Nat
  hl : Nat → Nat
  hc : Nat → Nat
  hd : Nat → Nat → Int
  y : LS
/-- where each list stands -/
def HX.V (x : HX) (k : Nat) : Value := .slice (x.o.B k) (x.hl k) (x.hc k)
/-- the reference's ways and the program's say the same -/
structure Rl (c : MC) (x : HX) (i j : Nat) : Prop where
  w : (x.t.w : Int) = c.w
  w8 : 1 ≤ c.w ∧ c.w ≤ 8
  ev : x.t.every = c.ev
  li : x.t.limit = c.li
  one : ∀ k, k < c.w.toNat → x.o.at_ k = z0 (x.t.ones k) ∧ Wy (x.t.ones k) (x.hl k) (x.hd k) i ∧ x.hl k ≤ x.hc k ∧ x.hc k ≤ 9223372036854775807
  all : Wy x.t.all x.y.len x.y.g j
  ay : x.y.len ≤ x.y.cap ∧ x.y.cap ≤ 9223372036854775807
noncomputable def rM (st : MS) (c : MC) (x : HX) (ns : List Nat) (u : Mg) (tl : Mem) : Mem := roM st :: some ⟨true, .obj 7 (mkL x.hl x.hc x.hd ns) (listI c.w.toNat x.V)⟩ :: mcL c :: mgO u :: some ⟨true, .tab c.w.toNat (x.o.cols x.V)⟩ :: some ⟨true, .flat (rsC x.t.all (.slc 6 1 0 x.y.len x.y.cap))⟩ :: rwI x.y.cap x.y.g :: tl
def rS (st : MS) (c : MC) (n : Int) (x : HX) (l : Slots) : Slots := (3, .one (.a (.ptr 2 0))) :: (7, .one (.a (.ptr 3 0))) :: (11, .one (.a (.slc 4 13 0 c.w.toNat x.cap))) :: (13, .one (.a (.ptr 5 0))) :: (14, int_ .i64 x.t.next) :: (15, int_ .i64 x.t.passed) :: (16, int_ .i64 x.t.again) :: (17, int_ .i64 x.t.silent) :: (127, .one (.a (.slc 0 4 0 st.len st.cap))) :: (128, int_ .i64 st.len) :: (129, int_ .i64 n) :: l
def cixM (S : St) (t c : Nat) : Nat := match S.m[S.ix t]? with | some (some ⟨_, .flat l⟩) => (match l[c]? with | some (.slc i _ _ _ _) => i | _ => 0) | _ => 0
def icol : List Col := [.int .i64 fun _ => 0]
/-- no slice: one of no rows -/
def nilM (S : St) (t c : Nat) : List GC := match S.m[S.ix t]? with | some (some ⟨_, .flat l⟩) => (match l[c]? with | some (.v (.slice none _ _)) => [.nil (S.ix t) c 1 icol] | _ => []) | _ => []
def renM (S : St) (l : List Nat) : List Nat := 0 :: 1 :: S.ix 3 :: S.ix 7 :: S.ix 11 :: S.ix 13 :: cixM S 13 5 :: l
/-- the step's row -/
def rw_ (x : HX) : Nat := 0 + (x.i : Int).toNat
def stC (st : MS) (r : Nat) : List SA := [b_ (st.lk r), i_ (st.now r), i_ (st.way r), i_ (st.seq r)]
/-- the way's row -/
def wr_ (st : MS) (x : HX) : Nat := 0 + (st.way (rw_ x)).toNat
noncomputable abbrev laMH (st : MS) (c : MC) : LA where
  ι := HX
  inv := fun x => Rl c x x.i x.i ∧ x.i ≤ st.len ∧ st.len ≤ 100
  T := fun x => ⟨303, rS st c x.i x [], rM st c x [] x.t []⟩
  μ := fun x => st.len - x.i
  ren := fun S => renM S []
  gs := fun S => nilM S 13 5
structure IX where
  i : Nat
  cap : Nat
  N : Nat
  o : OC
  V : Nat → Value
noncomputable abbrev la13 (st : MS) (c : MC) (now : Int) : LA where
  ι := IX
  inv := fun x => (MN c now ∧ x.i ≤ c.w.toNat) ∧ (x.i ≤ x.cap ∧ x.cap ≤ x.N ∧ x.cap ≤ 9223372036854775807) ∧ ∀ k, k < x.i → x.o.at_ k = z0 (sq0 c.o0 c.o1 c.o2 now) ∧ x.V k = .slice none 0 0
  T := fun x => ⟨303, [(1, int_ .i64 now), (2, .one (.a (.slc 0 4 0 st.len st.cap))), (3, .one (.a (.ptr 2 0))), (7, .one (.a (.ptr 3 0))), (11, .one (.a (.slc 4 13 0 x.i x.cap))), (12, int_ .i64 x.i)], [roM st, some ⟨true, .obj 7 (mkL (fun _ => 0) (fun _ => 0) (fun _ _ => 0) []) (listI c.w.toNat nilF)⟩, mcL c, mgO (mg0 c now), some ⟨true, .tab x.N (x.o.cols x.V)⟩]⟩
  μ := fun x => c.w.toNat - x.i
  ren := fun S => [0, 1, S.ix 3, S.ix 7, S.ix 11]
def inW (st : MS) (c : MC) (n : Int) (x : HX) : Prop := ((x.i : Int) = n ∧ x.i < st.len ∧ st.len ≤ 100) ∧ 0 ≤ st.way (rw_ x) ∧ st.way (rw_ x) < c.w
/-- the program has gone on -/
def mgX (st : MS) (x : HX) : Bool × Int × Mg := mgIn x.t (st.now (rw_ x)) (st.way (rw_ x)) (st.seq (rw_ x))
noncomputable abbrev la39 (st : MS) (c : MC) (n : Int) : LA where
  ι := HX
  inv := fun x => Rl c x x.i x.i ∧ inW st c n x
  T := fun x => ⟨303, rS st c n x [(19, .one (.a (.ptr 7 0))), (22, .one (.a (b_ (mgX st x).1))), (23, int_ .i64 (mgX st x).2.1)], rM st c x [] (mgX st x).2.2 [some ⟨true, .flat (stC st (rw_ x))⟩]⟩
  μ := fun _ => 0
  ren := fun S => renM S [S.ix 19]
structure GX where
  x : HX
  w : Int
  e : Int
  s : Sq
  l : Nat
  cp : Nat
  g : Nat → Int
noncomputable abbrev la40 (st : MS) (c : MC) (n : Int) : LA where
  ι := GX
  inv := fun y => Rl c y.x y.x.i y.x.i ∧ inW st c n y.x ∧ z0 (mgOne y.x.t (st.now (rw_ y.x)) (st.way (rw_ y.x)) (st.seq (rw_ y.x))).2.2 = z0 y.s ∧ (y.w = (mgOne y.x.t (st.now (rw_ y.x)) (st.way (rw_ y.x)) (st.seq (rw_ y.x))).1 ∧ y.e = (mgOne y.x.t (st.now (rw_ y.x)) (st.way (rw_ y.x)) (st.seq (rw_ y.x))).2.1) ∧
    Wy (mgOne y.x.t (st.now (rw_ y.x)) (st.way (rw_ y.x)) (st.seq (rw_ y.x))).2.2 y.l y.g (y.x.i + 1) ∧ y.l ≤ y.cp ∧ y.cp ≤ 9223372036854775807
  T := fun y => ⟨303, rS st c n y.x [(19, .one (.a (.ptr 7 0))), (22, .one (.a (b_ (mgX st y.x).1))), (23, int_ .i64 (mgX st y.x).2.1), (24, .one (.a (.ptr 8 0))), (25, int_ .i64 y.w), (26, int_ .i64 y.e)], rM st c y.x [wr_ st y.x] (mgX st y.x).2.2 [some ⟨true, .flat (stC st (rw_ y.x))⟩, some ⟨true, .flat (rsC y.s (.slc 9 1 0 y.l y.cp))⟩, rwI y.cp y.g]⟩
  μ := fun _ => 0
  ren := fun S => renM S [S.ix 19, S.ix 24, cixM S 24 5]
  gs := fun S => nilM S 24 5
/-- what is left to do: all together -/
def Fin1 (t : Mg) (w e now seq : Int) : Bool × Int × Mg :=
  if ¬ e = 0 then (false, e, t)
  else if w = 1 ∨ w = 2 then (false, 0, t)
  else if (t.all.in_ now seq).1 = 0 ∨ (t.all.in_ now seq).1 = 3 then (true, 0, { t with all := (t.all.in_ now seq).2.2, passed := IntKind.i64.wrap (t.passed + 1) })
  else if (t.all.in_ now seq).1 = 1 then (false, 0, { t with all := (t.all.in_ now seq).2.2, again := IntKind.i64.wrap (t.again + 1) })
  else (false, 0, { t with all := (t.all.in_ now seq).2.2 })
theorem fin1_of {t : Mg} {now y q : Int} (h : 0 ≤ y ∧ y < (t.w : Int)) : mgIn t now y q = Fin1 (mgT1 t now y q) (mgOne t now y q).1 (mgOne t now y q).2.1 now q := by
  unfold mgIn Fin1
  rw [if_neg (by omega)]
  rfl
def Fin2 (t : Mg) (w : Int) : Bool × Int × Mg :=
  if w = 0 ∨ w = 3 then (true, 0, { t with passed := IntKind.i64.wrap (t.passed + 1) })
  else if w = 1 then (false, 0, { t with again := IntKind.i64.wrap (t.again + 1) })
  else (false, 0, t)
theorem fin2_of {t : Mg} {w e now seq : Int} (he : e = 0) (hw : ¬ w = 1 ∧ ¬ w = 2) : Fin1 t w e now seq = Fin2 { t with all := (t.all.in_ now seq).2.2 } (t.all.in_ now seq).1 := by
  unfold Fin1 Fin2
  rw [if_neg (fun hh => hh he), if_neg (by omega)]
structure AX where
  x : HX
  w : Int
  e : Int
  u : Bool × Int × Mg
noncomputable abbrev la42 (st : MS) (c : MC) (n : Int) : LA where
  ι := AX
  inv := fun y => Rl c y.x (y.x.i + 1) y.x.i ∧ inW st c n y.x ∧ y.u = Fin1 y.x.t y.w y.e (st.now (rw_ y.x)) (st.seq (rw_ y.x))
  T := fun y => ⟨303, rS st c n y.x [(19, .one (.a (.ptr 7 0))), (22, .one (.a (b_ y.u.1))), (23, int_ .i64 y.u.2.1), (25, int_ .i64 y.w), (26, int_ .i64 y.e), (27, .one (.a .ff))], rM st c y.x [] y.u.2.2 [some ⟨true, .flat (stC st (rw_ y.x))⟩]⟩
  μ := fun _ => 0
  ren := fun S => renM S [S.ix 19]
structure BX where
  x : HX
  w : Int
  u : Bool × Int × Mg
noncomputable abbrev la45 (st : MS) (c : MC) (n : Int) : LA where
  ι := BX
  inv := fun y => Rl c y.x (y.x.i + 1) (y.x.i + 1) ∧ inW st c n y.x ∧ y.u = Fin2 y.x.t y.w
  T := fun y => ⟨303, rS st c n y.x [(22, .one (.a (b_ y.u.1))), (23, int_ .i64 y.u.2.1), (26, int_ .i64 0), (29, int_ .i64 y.w)], rM st c y.x [] y.u.2.2 []⟩
  μ := fun _ => 0
  ren := fun S => renM S []
  gs := fun S => nilM S 13 5
structure CX where
  x : HX
  ok : Bool
  f : Int
noncomputable abbrev la50 (st : MS) (c : MC) (n : Int) : LA where
  ι := CX
  inv := fun y => Rl c y.x (y.x.i + 1) (y.x.i + 1) ∧ inW st c n y.x
  T := fun y => ⟨303, rS st c n y.x [(22, .one (.a (b_ y.ok))), (27, .one (.a (b_ y.ok))), (23, int_ .i64 y.f), (26, int_ .i64 y.f)], rM st c y.x [] y.x.t []⟩
  μ := fun _ => 0
  ren := fun S => renM S []
structure EX where
  x : HX
  c : Nat
noncomputable abbrev la54 (st : MS) (c : MC) : LA where
  ι := EX
  inv := fun y => Rl c y.x st.len st.len ∧ y.c ≤ c.w.toNat
  T := fun y => ⟨303, rS st c y.x.i y.x [(31, int_ .i64 y.c)], rM st c y.x [] y.x.t []⟩
  μ := fun y => c.w.toNat - y.c
  ren := fun S => renM S []
/-- which row the law's In is asked for -/
def rowM (_ : List SV) (m : Mem) : Option Nat := match (m[7]? : Option (Option Reg)) with | some (some ⟨_, .flat l⟩) => (match (l[2]? : Option SA) with | some (.v (.int _ w)) => some (0 + w.toNat) | _ => none) | _ => none
noncomputable def rinV : ESpec Try.prog := viaL rinS 5 7 rowM
/-! why it stays so -/
theorem mn_out {c : MC} {now : Int} (h : MN c now) : (1 ≤ c.w ∧ c.w ≤ 8) ∧ (1 ≤ c.ev ∧ c.ev ≤ 1099511627776) ∧ (0 ≤ c.li ∧ c.li ≤ 1073741824) ∧ (0 ≤ now ∧ now ≤ 1099511627776) ∧ CfOK (c.o0, c.o1, c.o2) ∧ CfOK (c.a0, c.a1, c.a2) := ⟨h.1.1.1, h.1.1.2.1, h.1.1.2.2, h.2, h.1.2.1, h.1.2.2⟩
theorem mn_in {c : MC} {now : Int} (h1 : 1 ≤ c.w) (h2 : c.w ≤ 8) (h3 : 1 ≤ c.ev) (h4 : c.ev ≤ 1099511627776) (h5 : 0 ≤ c.li) (h6 : c.li ≤ 1073741824) (h7 : CfOK (c.o0, c.o1, c.o2)) (h8 : CfOK (c.a0, c.a1, c.a2)) (h9 : ¬ now < 0) (h0 : ¬ 1099511627776 < now) : MN c now :=
  ⟨⟨⟨⟨h1, h2⟩, ⟨h3, h4⟩, h5, h6⟩, h7, h8⟩, by omega, by omega⟩
theorem i6_mn {c : MC} {now : Int} (h : MN c now) : I6 now := by
  have := (mn_out h).2.2.2.1
  unfold I6; omega
theorem rl_new {c : MC} {now : Int} (h : MN c now) {o : OC} {cap : Nat} (ho : ∀ k, k < c.w.toNat → o.at_ k = z0 (sq0 c.o0 c.o1 c.o2 now)) : Rl c ⟨0, mg0 c now, o, cap, fun _ => 0, fun _ => 0, fun _ _ => 0, ⟨0, 0, fun _ => 0⟩⟩ 0 0 := by
  obtain ⟨m1, m2, m3, m4, c1, c2⟩ := mn_out h
  exact ⟨by show ((c.w.toNat : Nat) : Int) = c.w; omega, m1, rfl, rfl, fun k hk => ⟨ho k hk, wy_new c1 (i6_mn h), Nat.le_refl _, Nat.zero_le _⟩, wy_new c2 (i6_mn h), Nat.le_refl _, Nat.zero_le _⟩
theorem rl_at {c : MC} {x : HX} {i j i' j' : Nat} (h : Rl c x i j) (hi : i ≤ i') (hj : j ≤ j') (k : Nat) : Rl c ⟨k, x.t, x.o, x.cap, x.hl, x.hc, x.hd, x.y⟩ i' j' :=
  ⟨h.w, h.w8, h.ev, h.li, fun k hk => ⟨(h.one k hk).1, wy_up (h.one k hk).2.1 hi, (h.one k hk).2.2⟩, wy_up h.all hj, h.ay⟩
/-- another state of the same ways -/
theorem rl_t {c : MC} {x : HX} {i j : Nat} {t : Mg} (h : Rl c x i j) (hw : t.w = x.t.w) (he : t.every = x.t.every) (hl : t.limit = x.t.limit) (ho : t.ones = x.t.ones) (ha : t.all = x.t.all) (k : Nat) : Rl c ⟨k, t, x.o, x.cap, x.hl, x.hc, x.hd, x.y⟩ i j :=
  ⟨by show (t.w : Int) = c.w; rw [hw]; exact h.w, h.w8, he.trans h.ev, hl.trans h.li, fun k hk => (by show x.o.at_ k = z0 (t.ones k) ∧ Wy (t.ones k) _ _ i ∧ _; rw [ho]; exact h.one k hk), (by show Wy t.all _ _ j; rw [ha]; exact h.all), h.ay⟩
theorem wr_lt {st : MS} {c : MC} {n : Int} {x : HX} (h : inW st c n x) : wr_ st x < c.w.toNat := by
  have := h.2
  unfold wr_; omega
theorem rw_lt {st : MS} {c : MC} {n : Int} {x : HX} (h : inW st c n x) : rw_ x < st.len := by
  have := h.1.2.1
  unfold rw_; omega
/-- the program's step at a way, and the reference's -/
theorem g_ok {st : MS} {c : MC} {n : Int} {x : HX} {i j : Nat} (hw : Mw st) (hx : Rl c x i j) (hi : inW st c n x) {L : IS} (hl : L.len = x.hl (wr_ st x)) (hg : L.g = x.hd (wr_ st x)) :
    z0 (mgOne x.t (st.now (rw_ x)) (st.way (rw_ x)) (st.seq (rw_ x))).2.2 = (rO ((x.o.at_ (wr_ st x), L), st.now (rw_ x), st.seq (rw_ x))).s ∧
    (rO ((x.o.at_ (wr_ st x), L), st.now (rw_ x), st.seq (rw_ x))).w = (mgOne x.t (st.now (rw_ x)) (st.way (rw_ x)) (st.seq (rw_ x))).1 ∧ (rO ((x.o.at_ (wr_ st x), L), st.now (rw_ x), st.seq (rw_ x))).e = (mgOne x.t (st.now (rw_ x)) (st.way (rw_ x)) (st.seq (rw_ x))).2.1 ∧
    ((rO ((x.o.at_ (wr_ st x), L), st.now (rw_ x), st.seq (rw_ x))).kind = 0 → Wy (mgOne x.t (st.now (rw_ x)) (st.way (rw_ x)) (st.seq (rw_ x))).2.2 (x.hl (wr_ st x)) (x.hd (wr_ st x)) (i + 1)) ∧
    ((rO ((x.o.at_ (wr_ st x), L), st.now (rw_ x), st.seq (rw_ x))).kind = 1 → ∀ g', Wy (mgOne x.t (st.now (rw_ x)) (st.way (rw_ x)) (st.seq (rw_ x))).2.2 0 g' (i + 1)) ∧
    ((rO ((x.o.at_ (wr_ st x), L), st.now (rw_ x), st.seq (rw_ x))).kind = 2 → ∀ y : LS, LOK y (L.len + 1) → (∀ k, hasN y.g y.len k = (rO ((x.o.at_ (wr_ st x), L), st.now (rw_ x), st.seq (rw_ x))).N k) → Wy (mgOne x.t (st.now (rw_ x)) (st.way (rw_ x)) (st.seq (rw_ x))).2.2 y.len y.g (i + 1)) := by
  obtain ⟨h1, h2, h3, h4⟩ := hx.one _ (wr_lt hi)
  have hn : I6 (st.now (rw_ x)) := hw.2 _ (rw_lt hi)
  have e1 : mgOne x.t (st.now (rw_ x)) (st.way (rw_ x)) (st.seq (rw_ x)) = (x.t.ones (wr_ st x)).in_ (st.now (rw_ x)) (st.seq (rw_ x)) := by
    unfold mgOne wr_; rw [Nat.zero_add]
  have e2 : rO ((x.o.at_ (wr_ st x), L), st.now (rw_ x), st.seq (rw_ x)) = { rW (x.t.ones (wr_ st x)) (hasN (x.hd (wr_ st x)) (x.hl (wr_ st x))) (st.now (rw_ x)) (st.seq (rw_ x)) with s := { (rW (x.t.ones (wr_ st x)) (hasN (x.hd (wr_ st x)) (x.hl (wr_ st x))) (st.now (rw_ x)) (st.seq (rw_ x))).s with had := 0 } } := by
    unfold rO
    dsimp only
    rw [hl, hg, h1]
    exact rW_z _ _ _ _
  obtain ⟨b, g1, g2, g3, g4⟩ := wy_step (q := st.seq (rw_ x)) h2 hn
  rw [e1, e2, g1, hl]
  exact ⟨rfl, rfl, rfl, g2, g3, g4⟩
theorem g_all {st : MS} {c : MC} {n : Int} {x : HX} {i j : Nat} (hw : Mw st) (hx : Rl c x i j) (hi : inW st c n x) {L : IS} (hl : L.len = x.y.len) (hg : L.g = x.y.g) :
    z0 (x.t.all.in_ (st.now (rw_ x)) (st.seq (rw_ x))).2.2 = (rO ((z0 x.t.all, L), st.now (rw_ x), st.seq (rw_ x))).s ∧
    (rO ((z0 x.t.all, L), st.now (rw_ x), st.seq (rw_ x))).w = (x.t.all.in_ (st.now (rw_ x)) (st.seq (rw_ x))).1 ∧
    ((rO ((z0 x.t.all, L), st.now (rw_ x), st.seq (rw_ x))).kind = 0 → Wy (x.t.all.in_ (st.now (rw_ x)) (st.seq (rw_ x))).2.2 x.y.len x.y.g (j + 1)) ∧
    ((rO ((z0 x.t.all, L), st.now (rw_ x), st.seq (rw_ x))).kind = 1 → ∀ g', Wy (x.t.all.in_ (st.now (rw_ x)) (st.seq (rw_ x))).2.2 0 g' (j + 1)) ∧
    ((rO ((z0 x.t.all, L), st.now (rw_ x), st.seq (rw_ x))).kind = 2 → ∀ y : LS, LOK y (L.len + 1) → (∀ k, hasN y.g y.len k = (rO ((z0 x.t.all, L), st.now (rw_ x), st.seq (rw_ x))).N k) → Wy (x.t.all.in_ (st.now (rw_ x)) (st.seq (rw_ x))).2.2 y.len y.g (j + 1)) := by
  have hn : I6 (st.now (rw_ x)) := hw.2 _ (rw_lt hi)
  have e2 : rO ((z0 x.t.all, L), st.now (rw_ x), st.seq (rw_ x)) = { rW x.t.all (hasN x.y.g x.y.len) (st.now (rw_ x)) (st.seq (rw_ x)) with s := { (rW x.t.all (hasN x.y.g x.y.len) (st.now (rw_ x)) (st.seq (rw_ x))).s with had := 0 } } := by
    unfold rO
    dsimp only
    rw [hl, hg]
    exact rW_z _ _ _ _
  obtain ⟨b, g1, g2, g3, g4⟩ := wy_step (q := st.seq (rw_ x)) hx.all hn
  rw [e2, g1, hl]
  exact ⟨rfl, rfl, g2, g3, g4⟩
theorem r_in {st : MS} {c : MC} {n : Int} {x : HX} (hw : Mw st) (hx : Rl c x x.i x.i) (hi : inW st c n x) : RInOK (x.o.at_ (wr_ st x)) ⟨x.hl (wr_ st x), x.hc (wr_ st x), x.hc (wr_ st x), x.hd (wr_ st x)⟩ (st.now (rw_ x)) := by
  obtain ⟨h1, h2, h3, h4⟩ := hx.one _ (wr_lt hi)
  rw [h1]
  have := hi.1.2.2
  have := hi.1.2.1
  exact wy_r h2 (by omega) (hw.2 _ (rw_lt hi)) h3 (Nat.le_refl _) h4
theorem r_all {st : MS} {c : MC} {n : Int} {x : HX} {i : Nat} (hw : Mw st) (hx : Rl c x i x.i) (hi : inW st c n x) : RInOK (z0 x.t.all) ⟨x.y.len, x.y.cap, x.y.cap, x.y.g⟩ (st.now (rw_ x)) := by
  have := hi.1.2.2
  have := hi.1.2.1
  exact wy_r hx.all (by omega) (hw.2 _ (rw_lt hi)) hx.ay.1 (Nat.le_refl _) hx.ay.2
theorem v_upd (x : HX) (o : OC) (r l cp : Nat) (g : Nat → Int) (A : Option Addr) (hB : o.B = Go.Sx.upd x.o.B r A) (t : Mg) (i cap : Nat) (y : LS) : HX.V ⟨i, t, o, cap, Go.Sx.upd x.hl r l, Go.Sx.upd x.hc r cp, Go.Sx.upd x.hd r g, y⟩ = Go.Sx.upd x.V r (.slice A l cp) := by
  funext q
  unfold HX.V Go.Sx.upd
  dsimp only
  rw [hB]
  unfold Go.Sx.upd
  by_cases h : q = r <;> simp [h]
/-- the reference's state of a way is put where it belongs -/
theorem rl_put {st : MS} {c : MC} {n : Int} {x : HX} {s : Sq} {l cp : Nat} {g : Nat → Int} {o : OC} (hx : Rl c x x.i x.i) (hi : inW st c n x) (hz : z0 (mgOne x.t (st.now (rw_ x)) (st.way (rw_ x)) (st.seq (rw_ x))).2.2 = z0 s)
    (hy : Wy (mgOne x.t (st.now (rw_ x)) (st.way (rw_ x)) (st.seq (rw_ x))).2.2 l g (x.i + 1)) (hl : l ≤ cp ∧ cp ≤ 9223372036854775807) (ho : ∀ k, o.at_ k = if k = wr_ st x then z0 s else x.o.at_ k) :
    Rl c ⟨x.i, mgT1 x.t (st.now (rw_ x)) (st.way (rw_ x)) (st.seq (rw_ x)), o, x.cap, Go.Sx.upd x.hl (wr_ st x) l, Go.Sx.upd x.hc (wr_ st x) cp, Go.Sx.upd x.hd (wr_ st x) g, x.y⟩ (x.i + 1) x.i := by
  have hr : (st.way (rw_ x)).toNat = wr_ st x := by unfold wr_; rw [Nat.zero_add]
  refine ⟨hx.w, hx.w8, hx.ev, hx.li, fun k hk => ?_, hx.all, hx.ay⟩
  show o.at_ k = z0 (upd x.t.ones (st.way (rw_ x)).toNat (mgOne x.t (st.now (rw_ x)) (st.way (rw_ x)) (st.seq (rw_ x))).2.2 k) ∧ Wy (upd x.t.ones (st.way (rw_ x)).toNat (mgOne x.t (st.now (rw_ x)) (st.way (rw_ x)) (st.seq (rw_ x))).2.2 k) (Go.Sx.upd x.hl (wr_ st x) l k) (Go.Sx.upd x.hd (wr_ st x) g k) (x.i + 1) ∧ Go.Sx.upd x.hl (wr_ st x) l k ≤ Go.Sx.upd x.hc (wr_ st x) cp k ∧ Go.Sx.upd x.hc (wr_ st x) cp k ≤ 9223372036854775807
  rw [hr, ho]
  unfold upd Go.Sx.upd
  by_cases h : k = wr_ st x
  · simp only [if_pos h]
    exact ⟨hz.symm, hy, hl⟩
  · simp only [if_neg h]
    obtain ⟨h1, h2, h3⟩ := hx.one k hk
    exact ⟨h1, wy_up h2 (Nat.le_succ _), h3⟩
theorem rl_all {st : MS} {c : MC} {n : Int} {x : HX} {i : Nat} {y : LS} {s : Sq} (hx : Rl c x i x.i) (hy : Wy s y.len y.g (x.i + 1)) (hl : y.len ≤ y.cap ∧ y.cap ≤ 9223372036854775807) :
    Rl c ⟨x.i, { x.t with all := s }, x.o, x.cap, x.hl, x.hc, x.hd, y⟩ i (x.i + 1) :=
  ⟨hx.w, hx.w8, hx.ev, hx.li, hx.one, hy, hl⟩
theorem mo_40 {c : MC} {x : HX} {i j : Nat} (hx : Rl c x i j) {now y q : Int} (h : y < 0 ∨ c.w ≤ y) : mgIn x.t now y q = (false, 40, x.t) := mi_40 (by have := hx.w; omega)
theorem ct_o {c : MC} {x : HX} {i j k : Nat} (hx : Rl c x i j) (hk : k < c.w.toNat) : ctQ x.t (k : Int) = x.t.ones k := by
  have := hx.w
  rw [cq_k (by omega)]; rfl
theorem i_cnt {i : Nat} {n : Int} (h : (i : Int) = n) (hi : i < 1000) : ((i + 1 : Nat) : Int) = IntKind.i64.wrap (n + 1) := by
  rw [w64' (by omega) (by omega)]; omega
theorem inW_mk {st : MS} {c : MC} {n : Int} {x : HX} (h1 : (x.i : Int) = n ∧ x.i < st.len ∧ st.len ≤ 100) (h2 : ¬ st.way (rw_ x) < 0) (h3 : ¬ c.w ≤ st.way (rw_ x)) : inW st c n x := ⟨h1, by omega, by omega⟩
theorem inW_out {st : MS} {c : MC} {n : Int} {x : HX} (h : inW st c n x) : ((x.i : Int) = n ∧ x.i < st.len ∧ st.len ≤ 100) ∧ 0 ≤ st.way (rw_ x) ∧ st.way (rw_ x) < c.w := h
theorem inW_i {st : MS} {c : MC} {n : Int} {x y : HX} (h : inW st c n x) (e : y.i = x.i) : inW st c n y := by
  unfold inW rw_ at *
  rw [e]; exact h
theorem z0_eta {s t : Sq} (h : z0 s = t) : z0 s = z0 ⟨t.way, t.len, t.reset, t.any, t.last, 0, t.wen, t.k0, t.k1, t.k2, t.k3, t.resets, t.lost⟩ := by subst h; rfl
def eq4 (x : Sq) (a b c d : Int) : Bool := decide (x.k0 = a) && (decide (x.k1 = b) && (decide (x.k2 = c) && (decide (x.k3 = d) && true)))
theorem eq4_t {x : Sq} {a b c d : Int} (h : x.k0 = a ∧ x.k1 = b ∧ x.k2 = c ∧ x.k3 = d) : eq4 x a b c d = true := by
  unfold eq4
  rw [decide_eq_true h.1, decide_eq_true h.2.1, decide_eq_true h.2.2.1, decide_eq_true h.2.2.2]; rfl
theorem lk_b {c : MC} {x : HX} {i j : Nat} (hx : Rl c x i j) : lkB x.t ↔ c.li < IntKind.i64.wrap (IntKind.i64.wrap (x.t.passed * IntKind.i64.wrap (c.w - 1)) - x.t.again) := by
  unfold lkB; rw [hx.li, hx.w]
theorem lk_1 {c : MC} {x : HX} {i j : Nat} {n : Int} (hx : Rl c x i j) (h1 : x.t.next ≤ n) (h2 : n ≤ 1099511627776) : (lkIn x.t n).1 = decide (c.li < IntKind.i64.wrap (IntKind.i64.wrap (x.t.passed * IntKind.i64.wrap (c.w - 1)) - x.t.again)) := by
  by_cases h : lkB x.t
  · rw [lk_t (by omega) (by omega) h, decide_eq_true ((lk_b hx).1 h)]
  · rw [lk_f (by omega) (by omega) h, decide_eq_false (fun hh => h ((lk_b hx).2 hh))]
theorem f2_a {t : Mg} {w : Int} (h : w = 0 ∨ w = 3) : Fin2 t w = (true, 0, { t with passed := IntKind.i64.wrap (t.passed + 1) }) := if_pos h
theorem f2_b {t : Mg} {w : Int} (h : w = 1) : Fin2 t w = (false, 0, { t with again := IntKind.i64.wrap (t.again + 1) }) := by
  unfold Fin2; rw [if_neg (by omega), if_pos h]
theorem f2_c {t : Mg} {w : Int} (h : ¬ (w = 0 ∨ w = 3)) (h1 : ¬ w = 1) : Fin2 t w = (false, 0, t) := by
  unfold Fin2; rw [if_neg h, if_neg h1]
theorem f1_a {t : Mg} {w e now seq : Int} (h : ¬ e = 0) : Fin1 t w e now seq = (false, e, t) := if_pos h
theorem f1_b {t : Mg} {w e now seq : Int} (h : e = 0) (h1 : w = 1 ∨ w = 2) : Fin1 t w e now seq = (false, 0, t) := by
  unfold Fin1; rw [if_neg (fun hh => hh h), if_pos h1]
theorem nb {b : Bool} (h : (!(b == b)) = true) : False := by cases b <;> cases h
theorem lok_out {y : LS} {n : Nat} (h : LOK y n) : y.len ≤ y.cap ∧ y.cap ≤ 9223372036854775807 := ⟨h.1, h.2.1⟩

end Go.Proofs.Ytlhlegjndembdaa
