/-
  Contracts of functions, and plain facts about them, that a claim of this seat uses.
-/
import Derived.Test.YtaadejgoafdbcaaSx
import Derived.Test.YtaadejgoafdbcaaPortE
import Derived.Test.YtaadejgoafdbcaaPortN
import Derived.Test.YtaadejgoafdbcaaProg
namespace Go.Proofs.Ytaadejgoafdbcaa
open Go.Sx
set_option linter.unusedVariables false
set_option linter.unusedSimpArgs false
set_option maxRecDepth 100000

/-! the port's When. -/
def anyTo (q : Ln) : Nat → Bool
  | 0 => false
  | k + 1 => anyTo q k || decide (0 < lenV q k)
def whAt (l : GL) (a : A8) (now : Int) (c : Nat) : Int := IntKind.i64.wrap (IntKind.i64.wrap (now + a.f c) + nextV l (IntKind.i64.wrap (now + a.f c)) c)
def whOpens (l : GL) (a : A8) (now : Int) (c : Nat) : Prop := nextB l (IntKind.i64.wrap (now + a.f c)) c = true ∧ (0 < nextV l (IntKind.i64.wrap (now + a.f c)) c ∨ a.f c = 0)
instance (l : GL) (a : A8) (now : Int) (c : Nat) : Decidable (whOpens l a now c) := by unfold whOpens; exact inferInstance
/-- what the classes from c on come to: none: one can go now -/
def whL (l : GL) (q : Ln) (a : A8) (now : Int) : Nat → Nat → Int → Bool → Option (Int × Bool)
  | 0, _, b, f => some (b, f)
  | k + 1, c, b, f => if pkB (hdO q c) = false then whL l q a now k (c + 1) b f
    else if IntKind.i64.wrap (8 * (pkI q (hdO q c)).sz) ≤ a.f c then none
    else if whOpens l a now c ∧ (f = false ∨ whAt l a now c < b) then whL l q a now k (c + 1) (whAt l a now c) true
    else whL l q a now k (c + 1) b f
def whEnd (g : Gs) (now : Int) (b : Int) (f : Bool) : Int × Bool := if g.wait = true ∧ (f = false ∨ g.fr < b) then (g.fr, decide (now < g.fr)) else (b, f && decide (now < b))
def whV (p : Pt) (now : Int) : Int × Bool := if anyTo p.q 8 = false then (0, false) else match whL (atG p.g now).l p.q (lfA p.g now) now 8 0 0 false with
  | none => (now, true)
  | some (b, f) => whEnd (atG p.g now) now b f
def whP (p : Pt) (now : Int) : Pt := if anyTo p.q 8 = false then p else (atG p.g now).p p.q
structure WI where
  y : CL
  c : Nat
  b : Int
  f : Bool
structure WA where
  c : Nat
  a : Bool
abbrev laAny (p : Pt) (now : Int) : LA where
  ι := WA
  inv := fun x => x.c ≤ 8 ∧ x.a = anyTo p.q x.c
  T := fun x => ⟨124, [(0, .one (.a (.ptr 0 0))), (1, int_ .i64 now), (6, .one (.a (b_ x.a))), (29, int_ .i64 x.c)], ptMem p⟩
  μ := fun x => 8 - x.c
  ren := fun S => [0, mixO S.m 0 2, mixO S.m 0 5, mixO S.m 0 8]
def lfR (a : A8) : Option Reg := some ⟨true, .tab 8 [.int .i64 (fun r => a.f r)]⟩
def glC (l : GL) (y : CL) : Option Reg := some ⟨true, .flat [i_ l.base, i_ l.cyc, .slc 4 2 0 l.len y.cap]⟩
def whT (t : Pt) (y : CL) (a : A8) : Mem := ptMem t ++ [rwS y, glC t.l y, lfR a]
noncomputable abbrev laW0 (t : Pt) (a : A8) (now : Int) : LA where
  ι := CL
  inv := fun y => CS t.l.len t.l y ∧ anyTo t.q 8 = true
  T := fun y => ⟨124, [(0, .one (.a (.ptr 0 0))), (1, int_ .i64 now), (8, .one (.a (.ptr 5 0))), (9, .one (.a (.ptr 6 0)))], whT t y a⟩
  μ := fun _ => 0
  gs := fun S => nilG 0 5 S.m ++ [.rows (S.ix 9) 1 8]
  ren := fun S => [0, mixO S.m 0 2, mixO S.m 0 5, mixO S.m 0 8, mixO S.m (S.ix 8) 2, S.ix 8, S.ix 9]
noncomputable abbrev laW1 (t : Pt) (a : A8) (now : Int) : LA where
  ι := WI
  inv := fun x => (CS t.l.len t.l x.y ∧ anyTo t.q 8 = true) ∧ x.c ≤ 8 ∧ whL t.l t.q a now (8 - x.c) x.c x.b x.f = whL t.l t.q a now 8 0 0 false
  T := fun x => ⟨124, [(0, .one (.a (.ptr 0 0))), (1, int_ .i64 now), (8, .one (.a (.ptr 5 0))), (9, .one (.a (.ptr 6 0))), (10, .one (.a (.ptr 7 0))), (11, .one (.a (.ptr 8 0))), (12, .one (.a (.clo 32 [(8, 0), (7, 0)]))), (54, int_ .i64 x.c)], whT t x.y a ++ [some ⟨true, .flat [i_ x.b]⟩, some ⟨true, .flat [b_ x.f]⟩]⟩
  μ := fun x => 8 - x.c
  ren := fun S => [0, mixO S.m 0 2, mixO S.m 0 5, mixO S.m 0 8, mixO S.m (S.ix 8) 2, S.ix 8, S.ix 9, S.ix 10, S.ix 11]
noncomputable def cxNote : Cx Try.prog := { ps := [], es := [], is := [], n0 := 0, loops := fun _ => none, cuts := fun _ => none }
noncomputable def cxWh (p t : Pt) (a : A8) (now : Int) : Cx Try.prog := { ps := [lenS, headS, nextS], es := [atS, lfS, lfN], is := [inl fn32 cxNote], n0 := 1, loops := fun i => match i with | 5 => some (.inv (laAny p now)) | 15 => some (.inv (laW1 t a now)) | _ => none, cuts := fun i => match i with | 12 => some (laW0 t a now) | _ => none }
theorem cp_nextV {l : GL} {y : CL} (h : CS l.len l y) (at_ k : Int) : nextV (cp l y) at_ k = nextV l at_ k := by
  unfold nextV
  rw [cp_chk h]
  by_cases h9 : chk l = 0
  · rw [show phV (cp l y) at_ = phV l at_ from rfl, cp_stay h (chk_ok h9)]; rfl
  · rw [if_neg (fun hh => h9 hh.1), if_neg (fun hh => h9 hh.1)]
theorem cp_nextB {l : GL} {y : CL} (h : CS l.len l y) (at_ k : Int) : nextB (cp l y) at_ k = nextB l at_ k := by
  unfold nextB
  rw [cp_chk h]
  by_cases h9 : chk l = 0
  · rw [show phV (cp l y) at_ = phV l at_ from rfl, cp_stay h (chk_ok h9)]; rfl
  · rw [decide_eq_false (fun hh => h9 hh.1), decide_eq_false (fun hh => h9 hh.1)]
theorem cp_at {l : GL} {y : CL} (h : CS l.len l y) (a : A8) (now : Int) (c : Nat) : whAt (cp l y) a now c = whAt l a now c := by unfold whAt; rw [cp_nextV h]
theorem whL_1 {l : GL} {q : Ln} {a : A8} {now : Int} {c : Nat} {b : Int} {f : Bool} (hc : (c : Int) < 8) : whL l q a now (8 - c) c b f = if pkB (hdO q c) = false then whL l q a now (8 - (c + 1)) (c + 1) b f
    else if IntKind.i64.wrap (8 * (pkI q (hdO q c)).sz) ≤ a.f c then none
    else if whOpens l a now c ∧ (f = false ∨ whAt l a now c < b) then whL l q a now (8 - (c + 1)) (c + 1) (whAt l a now c) true
    else whL l q a now (8 - (c + 1)) (c + 1) b f := by
  rw [show 8 - c = (8 - (c + 1)) + 1 by omega]; rfl
theorem wi_skip {t : Pt} {a : A8} {now : Int} {z : WI} (hi : (laW1 t a now).inv z) (hc : (z.c : Int) < 8) (hp : (!pkB (hdO t.q z.c)) = true) : (laW1 t a now).inv ⟨z.y, z.c + 1, z.b, z.f⟩ := by
  obtain ⟨h1, h2, h3⟩ := hi
  rw [whL_1 hc, if_pos (by simpa using hp)] at h3
  exact ⟨h1, by show z.c + 1 ≤ 8; omega, h3⟩
theorem wi_now {t : Pt} {a : A8} {now : Int} {z : WI} (hi : (laW1 t a now).inv z) (hc : (z.c : Int) < 8) (hp : (!pkB (hdO t.q z.c)) = false) (hf : IntKind.i64.wrap (8 * (pkI t.q (hdO t.q z.c)).sz) ≤ a.f z.c) : whL t.l t.q a now 8 0 0 false = none := by
  obtain ⟨h1, h2, h3⟩ := hi
  rw [whL_1 hc, if_neg (by simpa using hp), if_pos hf] at h3
  exact h3.symm
theorem wi_note {t : Pt} {a : A8} {now : Int} {z : WI} (hi : (laW1 t a now).inv z) (hc : (z.c : Int) < 8) (hp : (!pkB (hdO t.q z.c)) = false) (hf : ¬ IntKind.i64.wrap (8 * (pkI t.q (hdO t.q z.c)).sz) ≤ a.f z.c)
    (ho : nextB (cp t.l z.y) (IntKind.i64.wrap (now + a.f z.c)) z.c = true) (h0 : 0 < nextV (cp t.l z.y) (IntKind.i64.wrap (now + a.f z.c)) z.c ∨ a.f z.c = 0) (hb : (!z.f) = true ∨ whAt (cp t.l z.y) a now z.c < z.b) : (laW1 t a now).inv ⟨z.y, z.c + 1, whAt (cp t.l z.y) a now z.c, true⟩ := by
  obtain ⟨h1, h2, h3⟩ := hi
  rw [cp_nextB h1.1] at ho
  rw [cp_nextV h1.1] at h0
  rw [cp_at h1.1] at hb
  rw [whL_1 hc, if_neg (by simpa using hp), if_neg hf, if_pos ⟨⟨ho, h0⟩, by simpa using hb⟩] at h3
  refine ⟨h1, by show z.c + 1 ≤ 8; omega, ?_⟩
  show whL t.l t.q a now (8 - (z.c + 1)) (z.c + 1) (whAt (cp t.l z.y) a now z.c) true = _
  rw [cp_at h1.1]; exact h3
theorem wi_keep {t : Pt} {a : A8} {now : Int} {z : WI} (hi : (laW1 t a now).inv z) (hc : (z.c : Int) < 8) (hp : (!pkB (hdO t.q z.c)) = false) (hf : ¬ IntKind.i64.wrap (8 * (pkI t.q (hdO t.q z.c)).sz) ≤ a.f z.c)
    (ho : ¬ ((nextB (cp t.l z.y) (IntKind.i64.wrap (now + a.f z.c)) z.c = true ∧ (0 < nextV (cp t.l z.y) (IntKind.i64.wrap (now + a.f z.c)) z.c ∨ a.f z.c = 0)) ∧ (z.f = false ∨ whAt (cp t.l z.y) a now z.c < z.b))) : (laW1 t a now).inv ⟨z.y, z.c + 1, z.b, z.f⟩ := by
  obtain ⟨h1, h2, h3⟩ := hi
  rw [cp_nextB h1.1, cp_nextV h1.1, cp_at h1.1] at ho
  rw [whL_1 hc, if_neg (by simpa using hp), if_neg hf, if_neg (show ¬ (whOpens t.l a now z.c ∧ (z.f = false ∨ whAt t.l a now z.c < z.b)) from ho)] at h3
  exact ⟨h1, by show z.c + 1 ≤ 8; omega, h3⟩
theorem no_1 {B : Bool} {X Y : Prop} (h : B = false) : ¬ ((B = true ∧ X) ∧ Y) := fun hh => absurd (h.symm.trans hh.1.1) (by decide)
theorem no_2 {A X X' Y : Prop} (h : ¬ X) (h' : ¬ X') : ¬ ((A ∧ (X ∨ X')) ∧ Y) := fun hh => hh.1.2.elim h h'
theorem no_3 {A X : Prop} {f : Bool} (h : (!f) = false) (h' : ¬ X) : ¬ (A ∧ (f = false ∨ X)) := fun hh => hh.2.elim (fun h1 => by rw [h1] at h; exact absurd h (by decide)) h'
theorem wi_end {t : Pt} {a : A8} {now : Int} {z : WI} (hi : (laW1 t a now).inv z) (hc : ¬ (z.c : Int) < 8) : whL t.l t.q a now 8 0 0 false = some (z.b, z.f) := by
  obtain ⟨h1, h2, h3⟩ := hi
  rw [← h3, show 8 - z.c = 0 by omega]; rfl
theorem we_w {g : Gs} {now b : Int} {f : Bool} (hw : g.wait = true) (h : (!f) = true ∨ g.fr < b) : whEnd g now b f = (g.fr, decide (now < g.fr)) := if_pos ⟨hw, h.imp (fun h => by simpa using h) id⟩
theorem we_k {g : Gs} {now b : Int} {f : Bool} (h : (!f) = false) (h' : ¬ g.fr < b) (hf : f = true) : whEnd g now b f = (b, decide (now < b)) := by
  subst hf
  exact if_neg fun hh => hh.2.elim (fun h => absurd h (by decide)) h'
theorem we_n {g : Gs} {now b : Int} {f : Bool} (hw : g.wait = false) (hf : f = true) : whEnd g now b f = (b, decide (now < b)) := by
  subst hf
  exact if_neg fun hh => absurd (hw.symm.trans hh.1) (by decide)
theorem we_0 {g : Gs} {now b : Int} {f : Bool} (hw : g.wait = false) (hf : f = false) : whEnd g now b f = (b, false) := by
  subst hf
  exact if_neg fun hh => absurd (hw.symm.trans hh.1) (by decide)
theorem any_s {q : Ln} {k : Nat} : anyTo q (k + 1) = (anyTo q k || decide (0 < lenV q k)) := rfl
theorem any_t {p : Pt} {now : Int} {x : WA} (hi : (laAny p now).inv x) (hc : (x.c : Int) < 8) (h : x.a = true) : (laAny p now).inv ⟨x.c + 1, true⟩ :=
  ⟨by show x.c + 1 ≤ 8; omega, by show true = anyTo p.q (x.c + 1); rw [any_s, ← hi.2, h]; rfl⟩
theorem any_f {p : Pt} {now : Int} {x : WA} (hi : (laAny p now).inv x) (hc : (x.c : Int) < 8) (h : x.a = false) : (laAny p now).inv ⟨x.c + 1, decide (0 < lenV p.q x.c)⟩ :=
  ⟨by show x.c + 1 ≤ 8; omega, by show decide _ = anyTo p.q (x.c + 1); rw [any_s, ← hi.2, h]; rfl⟩
theorem any_e {p : Pt} {now : Int} {x : WA} (hi : (laAny p now).inv x) (hc : ¬ (x.c : Int) < 8) : anyTo p.q 8 = x.a := by
  have h1 : x.c ≤ 8 := hi.1
  rw [hi.2, show x.c = 8 by omega]
theorem mu_lt {c : Nat} (h : (c : Int) < 8) : 8 - (c + 1) < 8 - c := by omega
theorem cnt_w {c : Nat} (h : (c : Int) < 8) : ((c + 1 : Nat) : Int) = IntKind.i64.wrap ((c : Int) + 1) := by rw [w64' (by omega) (by omega)]; omega
def wV (t : Pt) (a : A8) (now : Int) : Int × Bool := if anyTo t.q 8 = false then (0, false) else match whL t.l t.q a now 8 0 0 false with
  | none => (now, true)
  | some (b, f) => whEnd ⟨t.l, t.a, t.fr, t.wait⟩ now b f
def wP (p t : Pt) : Pt := if anyTo p.q 8 = false then p else t
theorem wv_no {p t : Pt} {a : A8} {now : Int} (hq : t.q = p.q) (h : anyTo p.q 8 = false) : wV t a now = (0, false) ∧ wP p t = p := ⟨if_pos (by rw [hq]; exact h), if_pos h⟩
theorem wv_p {p t : Pt} (h : anyTo p.q 8 = true) : wP p t = t := if_neg (by rw [h]; decide)
theorem wv_now {t : Pt} {a : A8} {now : Int} (h : anyTo t.q 8 = true) (hn : whL t.l t.q a now 8 0 0 false = none) : wV t a now = (now, true) := by
  unfold wV; rw [if_neg (by rw [h]; decide), hn]
theorem wv_end {t : Pt} {a : A8} {now : Int} {b : Int} {f : Bool} (h : anyTo t.q 8 = true) (hn : whL t.l t.q a now 8 0 0 false = some (b, f)) : wV t a now = whEnd ⟨t.l, t.a, t.fr, t.wait⟩ now b f := by
  unfold wV; rw [if_neg (by rw [h]; decide), hn]
section
attribute [local irreducible] anyO Gw enter lfV pk pkC pkI pkB popL HeldOK swB lenV hdO nextV nextB whL anyTo lf8 wV wP
set_option maxHeartbeats 8000000 in
theorem wh_runs0 (p : Pt) (now : Int) (hw : ¬ swB p.g now) (hn : nxOK now) (h : Unit) (hi : PtInv p) : Runs (cxWh p (p.g.p p.q) (lf8 p.l p.fr p.wait now) now) Try.f14 (.one (.a (.ptr 0 0)) :: [int_ .i64 now]) (ptMem p) fun v m => ghosted (fun _ m => nilG 0 5 m) v m fun v m => anyO ptK (ptRen 0 m) v m [.one (.tup [.a (i_ (wV (p.g.p p.q) (lf8 p.l p.fr p.wait now) now).1), .a (b_ (wV (p.g.p p.q) (lf8 p.l p.fr p.wait now) now).2)]) (ptP (wP p (p.g.p p.q)))] := by
  obtain ⟨n1, n2⟩ := hn
  have hg := hi.gs
  have hti : PtInv (p.g.p p.q) := ⟨hi.lg, hi.lc, hi.ag, hi.ac, hi.fr⟩
  repeat' (first | with_reducible exact trivial | with_reducible exact rfl | with_reducible exact Nat.le_refl _ | with_reducible exact (fun _ _ => rfl) | ((conv => whnf); first | (refine fun (x : WA) => ?_) | (refine fun (y : CL) => ?_) | (refine fun (z : WI) => ?_) | (exact fun h => absurd h (by decide)) | (intro h9; (have h8 := of_decide_eq_true (p := type_of% h9) (by decide)); clear h8 h9) | (refine fun _ => ?_) | refine ⟨?_, ?_⟩ | exact trivial | exact Nat.le_refl _ | exact lex_q (by kernel_rfl) | exact lex_t (by kernel_rfl) | exact lex_h (by kernel_rfl) | fail))
  all_goals (try exact hg)
  all_goals (try exact hi.ag)
  all_goals (try exact hi.ac (by unfold swB at hw; exact hw.1))
  all_goals (try omega)
  all_goals (try exact absurd (And.left (by assumption)) hw)
  all_goals (try exact absurd hw (And.left (by assumption)))
  all_goals (try exact absurd (by assumption : _) hw)
  all_goals (try exact absurd hw (by assumption))
  all_goals (try exact cp_gw (l := (p.g.p p.q).l) (y := z.y) (And.left (And.left (by assumption : (laW1 (p.g.p p.q) (lf8 p.l p.fr p.wait now) now).inv z))) hti.lg)
  all_goals (try (have hc := (by assumption : ((x.c : Nat) : Int) < 8); have hx := (by assumption : (laAny p now).inv x); first
    | (((conv => whnf); refine enter_mk (la := laAny p now) ⟨x.c + 1, true⟩ ?_ (by (repeat' (first | ((conv => whnf); first | refine ⟨?_, ?_⟩ | exact trivial | fail) | (dsimp only; done) | ((try dsimp only); first | with_reducible exact rfl | exact Nat.le_refl _ | with_reducible exact (fun _ _ => rfl)))); all_goals ((first | rfl | exact cnt_w hc | exact mu_lt hc | exact hc | omega)))); exact any_t hx hc (by assumption))
    | (((conv => whnf); refine enter_mk (la := laAny p now) ⟨x.c + 1, decide (0 < lenV p.q x.c)⟩ ?_ (by (repeat' (first | ((conv => whnf); first | refine ⟨?_, ?_⟩ | exact trivial | fail) | (dsimp only; done) | ((try dsimp only); first | with_reducible exact rfl | exact Nat.le_refl _ | with_reducible exact (fun _ _ => rfl)))); all_goals ((first | rfl | exact cnt_w hc | exact mu_lt hc | exact hc | omega | simp)))); exact any_f hx hc (by assumption))
    | fail))
  all_goals (try (((conv => whnf); refine enter_mk (la := laAny p now) ⟨0, false⟩ ?_ (by (repeat' (first | ((conv => whnf); first | refine ⟨?_, ?_⟩ | exact trivial | fail) | (dsimp only; done) | ((try dsimp only); first | with_reducible exact rfl | exact Nat.le_refl _ | with_reducible exact (fun _ _ => rfl)))); all_goals (rfl))); exact ⟨by show 0 ≤ 8; omega, by unfold anyTo; rfl⟩))
  all_goals (try (have hc := (by assumption : ((z.c : Nat) : Int) < 8); have hz := (by assumption : (laW1 (p.g.p p.q) (lf8 p.l p.fr p.wait now) now).inv z); first
    | (((conv => whnf); refine enter_mk (la := laW1 (p.g.p p.q) (lf8 p.l p.fr p.wait now) now) ⟨z.y, z.c + 1, z.b, z.f⟩ ?_ (by (repeat' (first | ((conv => whnf); first | refine ⟨?_, ?_⟩ | exact trivial | fail) | (dsimp only; done) | ((try dsimp only); first | with_reducible exact rfl | exact Nat.le_refl _ | with_reducible exact (fun _ _ => rfl)))); all_goals ((first | rfl | exact cnt_w hc | exact mu_lt hc | exact hc | omega | exact fun _ _ => rfl)))); first | exact wi_skip hz hc (by assumption) | exact wi_keep hz hc (by assumption) (by assumption) (no_1 (by assumption)) | exact wi_keep hz hc (by assumption) (by assumption) (no_2 (by assumption) (by assumption)) | exact wi_keep hz hc (by assumption) (by assumption) (no_3 (by assumption) (by assumption)) | fail)
    | (((conv => whnf); refine enter_mk (la := laW1 (p.g.p p.q) (lf8 p.l p.fr p.wait now) now) ⟨z.y, z.c + 1, whAt (cp (p.g.p p.q).l z.y) (lf8 p.l p.fr p.wait now) now z.c, true⟩ ?_ (by (repeat' (first | ((conv => whnf); first | refine ⟨?_, ?_⟩ | exact trivial | fail) | (dsimp only; done) | ((try dsimp only); first | with_reducible exact rfl | exact Nat.le_refl _ | with_reducible exact (fun _ _ => rfl)))); all_goals ((first | rfl | exact cnt_w hc | exact mu_lt hc | exact hc | omega | exact fun _ _ => rfl)))); first | exact wi_note hz hc (by assumption) (by assumption) (by assumption) (.inl (by assumption)) (.inl (by assumption)) | exact wi_note hz hc (by assumption) (by assumption) (by assumption) (.inl (by assumption)) (.inr (by assumption)) | exact wi_note hz hc (by assumption) (by assumption) (by assumption) (.inr (by assumption)) (.inl (by assumption)) | exact wi_note hz hc (by assumption) (by assumption) (by assumption) (.inr (by assumption)) (.inr (by assumption)) | fail)
    | fail))
  all_goals (try (have hx := (by assumption : (laAny p now).inv x); have hna := any_e hx (by assumption); have hxa := (by assumption : (!x.a) = true); have he := wv_no (p := p) (t := (p.g.p p.q)) (a := (lf8 p.l p.fr p.wait now)) (now := now) rfl (by rw [hna]; simpa using hxa); (conv => whnf); rw [he.1, he.2]; (conv => whnf); refine o_one () (by (repeat' (first | ((conv => whnf); first | refine ⟨?_, ?_⟩ | exact trivial | fail) | (dsimp only; done) | ((try dsimp only); first | with_reducible exact rfl | exact Nat.le_refl _ | with_reducible exact (fun _ _ => rfl)))); all_goals ((first | rfl | exact fun _ _ => rfl))) ?_; exact hi))
  all_goals (have hx := (by assumption : (laAny p now).inv x); have hna := any_e hx (by assumption); have hxa := (by assumption : (!x.a) = false); have hany : anyTo p.q 8 = true := (by rw [hna]; simpa using hxa))
  · (conv => whnf); refine enter_mk (la := laW0 (p.g.p p.q) (lf8 p.l p.fr p.wait now) now) y ?_ (by (repeat' (first | ((conv => whnf); first | refine ⟨?_, ?_⟩ | exact trivial | fail) | (dsimp only; done) | ((try dsimp only); first | with_reducible exact rfl | exact Nat.le_refl _ | with_reducible exact (fun _ _ => rfl)))); all_goals ((first | rfl | exact fun _ _ => rfl | skip)))
    exact ⟨And.right (by assumption), hany⟩
  · (conv => whnf); refine enter_mk (la := laW1 (p.g.p p.q) (lf8 p.l p.fr p.wait now) now) ⟨y, 0, 0, false⟩ ?_ (by (repeat' (first | ((conv => whnf); first | refine ⟨?_, ?_⟩ | exact trivial | fail) | (dsimp only; done) | ((try dsimp only); first | with_reducible exact rfl | exact Nat.le_refl _ | with_reducible exact (fun _ _ => rfl)))); all_goals ((first | rfl | exact fun _ _ => rfl | skip)))
    have hy := (by assumption : (laW0 (p.g.p p.q) (lf8 p.l p.fr p.wait now) now).inv y)
    exact ⟨hy, by show 0 ≤ 8; omega, rfl⟩
  · have hc := (by assumption : ((z.c : Nat) : Int) < 8)
    have hz := (by assumption : (laW1 (p.g.p p.q) (lf8 p.l p.fr p.wait now) now).inv z)
    (conv => whnf)
    rw [wv_now (t := (p.g.p p.q)) hany (wi_now hz hc (by assumption) (by assumption)), wv_p hany]
    (conv => whnf); refine o_one () (by (repeat' (first | ((conv => whnf); first | refine ⟨?_, ?_⟩ | exact trivial | fail) | (dsimp only; done) | ((try dsimp only); first | with_reducible exact rfl | exact Nat.le_refl _ | with_reducible exact (fun _ _ => rfl)))); all_goals ((first | rfl | exact fun _ _ => rfl | skip))) ?_; exact hti
  all_goals (have hz := (by assumption : (laW1 (p.g.p p.q) (lf8 p.l p.fr p.wait now) now).inv z); (conv => whnf); rw [wv_end (t := (p.g.p p.q)) hany (wi_end hz (by assumption)), wv_p hany])
  all_goals first
    | exact absurd (by assumption : (!z.f) = false) (by rw [(by assumption : z.f = false)]; decide)
    | ((first | rw [we_w (g := ⟨(p.g.p p.q).l, (p.g.p p.q).a, (p.g.p p.q).fr, (p.g.p p.q).wait⟩) (by assumption) (.inl (by assumption))] | rw [we_w (g := ⟨(p.g.p p.q).l, (p.g.p p.q).a, (p.g.p p.q).fr, (p.g.p p.q).wait⟩) (by assumption) (.inr (by assumption))] | rw [we_k (g := ⟨(p.g.p p.q).l, (p.g.p p.q).a, (p.g.p p.q).fr, (p.g.p p.q).wait⟩) (by assumption) (by assumption) (by assumption)] | rw [we_n (g := ⟨(p.g.p p.q).l, (p.g.p p.q).a, (p.g.p p.q).fr, (p.g.p p.q).wait⟩) (by assumption) (by assumption)] | rw [we_0 (g := ⟨(p.g.p p.q).l, (p.g.p p.q).a, (p.g.p p.q).fr, (p.g.p p.q).wait⟩) (by assumption) (by assumption)] | fail); (conv => whnf); refine o_one () (by (repeat' (first | ((conv => whnf); first | refine ⟨?_, ?_⟩ | exact trivial | fail) | (dsimp only; done) | ((try dsimp only); first | with_reducible exact rfl | exact Nat.le_refl _ | with_reducible exact (fun _ _ => rfl)))); all_goals ((first | rfl | exact fun _ _ => rfl))) ?_; exact hti)
    | fail
set_option maxHeartbeats 8000000 in
theorem wh_runs1 (p : Pt) (now : Int) (hw : swB p.g now) (hn : nxOK now) (h : Unit) (hi : PtInv p) : Runs (cxWh p (Gs.p ⟨p.a, glN, 0, false⟩ p.q) (lf8 p.a 0 false now) now) Try.f14 (.one (.a (.ptr 0 0)) :: [int_ .i64 now]) (ptMem p) fun v m => ghosted (fun _ m => nilG 0 5 m) v m fun v m => anyO ptK (ptRen 0 m) v m [.one (.tup [.a (i_ (wV (Gs.p ⟨p.a, glN, 0, false⟩ p.q) (lf8 p.a 0 false now) now).1), .a (b_ (wV (Gs.p ⟨p.a, glN, 0, false⟩ p.q) (lf8 p.a 0 false now) now).2)]) (ptP (wP p (Gs.p ⟨p.a, glN, 0, false⟩ p.q)))] := by
  obtain ⟨n1, n2⟩ := hn
  have hg := hi.gs
  have hti : PtInv (Gs.p ⟨p.a, glN, 0, false⟩ p.q) := (by have h9 := at_inv (p := p) (now := now) (q := p.q) hi; rw [atG_sw hw] at h9; exact h9)
  repeat' (first | with_reducible exact trivial | with_reducible exact rfl | with_reducible exact Nat.le_refl _ | with_reducible exact (fun _ _ => rfl) | ((conv => whnf); first | (refine fun (x : WA) => ?_) | (refine fun (y : CL) => ?_) | (refine fun (z : WI) => ?_) | (exact fun h => absurd h (by decide)) | (intro h9; (have h8 := of_decide_eq_true (p := type_of% h9) (by decide)); clear h8 h9) | (refine fun _ => ?_) | refine ⟨?_, ?_⟩ | exact trivial | exact Nat.le_refl _ | exact lex_q (by kernel_rfl) | exact lex_t (by kernel_rfl) | exact lex_h (by kernel_rfl) | fail))
  all_goals (try exact hg)
  all_goals (try exact hi.ag)
  all_goals (try exact hi.ac (by unfold swB at hw; exact hw.1))
  all_goals (try omega)
  all_goals (try exact absurd (And.left (by assumption)) hw)
  all_goals (try exact absurd hw (And.left (by assumption)))
  all_goals (try exact absurd (by assumption : _) hw)
  all_goals (try exact absurd hw (by assumption))
  all_goals (try exact cp_gw (l := (Gs.p ⟨p.a, glN, 0, false⟩ p.q).l) (y := z.y) (And.left (And.left (by assumption : (laW1 (Gs.p ⟨p.a, glN, 0, false⟩ p.q) (lf8 p.a 0 false now) now).inv z))) hti.lg)
  all_goals (try (have hc := (by assumption : ((x.c : Nat) : Int) < 8); have hx := (by assumption : (laAny p now).inv x); first
    | (((conv => whnf); refine enter_mk (la := laAny p now) ⟨x.c + 1, true⟩ ?_ (by (repeat' (first | ((conv => whnf); first | refine ⟨?_, ?_⟩ | exact trivial | fail) | (dsimp only; done) | ((try dsimp only); first | with_reducible exact rfl | exact Nat.le_refl _ | with_reducible exact (fun _ _ => rfl)))); all_goals ((first | rfl | exact cnt_w hc | exact mu_lt hc | exact hc | omega)))); exact any_t hx hc (by assumption))
    | (((conv => whnf); refine enter_mk (la := laAny p now) ⟨x.c + 1, decide (0 < lenV p.q x.c)⟩ ?_ (by (repeat' (first | ((conv => whnf); first | refine ⟨?_, ?_⟩ | exact trivial | fail) | (dsimp only; done) | ((try dsimp only); first | with_reducible exact rfl | exact Nat.le_refl _ | with_reducible exact (fun _ _ => rfl)))); all_goals ((first | rfl | exact cnt_w hc | exact mu_lt hc | exact hc | omega | simp)))); exact any_f hx hc (by assumption))
    | fail))
  all_goals (try (((conv => whnf); refine enter_mk (la := laAny p now) ⟨0, false⟩ ?_ (by (repeat' (first | ((conv => whnf); first | refine ⟨?_, ?_⟩ | exact trivial | fail) | (dsimp only; done) | ((try dsimp only); first | with_reducible exact rfl | exact Nat.le_refl _ | with_reducible exact (fun _ _ => rfl)))); all_goals (rfl))); exact ⟨by show 0 ≤ 8; omega, by unfold anyTo; rfl⟩))
  all_goals (try (have hc := (by assumption : ((z.c : Nat) : Int) < 8); have hz := (by assumption : (laW1 (Gs.p ⟨p.a, glN, 0, false⟩ p.q) (lf8 p.a 0 false now) now).inv z); first
    | (((conv => whnf); refine enter_mk (la := laW1 (Gs.p ⟨p.a, glN, 0, false⟩ p.q) (lf8 p.a 0 false now) now) ⟨z.y, z.c + 1, z.b, z.f⟩ ?_ (by (repeat' (first | ((conv => whnf); first | refine ⟨?_, ?_⟩ | exact trivial | fail) | (dsimp only; done) | ((try dsimp only); first | with_reducible exact rfl | exact Nat.le_refl _ | with_reducible exact (fun _ _ => rfl)))); all_goals ((first | rfl | exact cnt_w hc | exact mu_lt hc | exact hc | omega | exact fun _ _ => rfl)))); first | exact wi_skip hz hc (by assumption) | exact wi_keep hz hc (by assumption) (by assumption) (no_1 (by assumption)) | exact wi_keep hz hc (by assumption) (by assumption) (no_2 (by assumption) (by assumption)) | exact wi_keep hz hc (by assumption) (by assumption) (no_3 (by assumption) (by assumption)) | fail)
    | (((conv => whnf); refine enter_mk (la := laW1 (Gs.p ⟨p.a, glN, 0, false⟩ p.q) (lf8 p.a 0 false now) now) ⟨z.y, z.c + 1, whAt (cp (Gs.p ⟨p.a, glN, 0, false⟩ p.q).l z.y) (lf8 p.a 0 false now) now z.c, true⟩ ?_ (by (repeat' (first | ((conv => whnf); first | refine ⟨?_, ?_⟩ | exact trivial | fail) | (dsimp only; done) | ((try dsimp only); first | with_reducible exact rfl | exact Nat.le_refl _ | with_reducible exact (fun _ _ => rfl)))); all_goals ((first | rfl | exact cnt_w hc | exact mu_lt hc | exact hc | omega | exact fun _ _ => rfl)))); first | exact wi_note hz hc (by assumption) (by assumption) (by assumption) (.inl (by assumption)) (.inl (by assumption)) | exact wi_note hz hc (by assumption) (by assumption) (by assumption) (.inl (by assumption)) (.inr (by assumption)) | exact wi_note hz hc (by assumption) (by assumption) (by assumption) (.inr (by assumption)) (.inl (by assumption)) | exact wi_note hz hc (by assumption) (by assumption) (by assumption) (.inr (by assumption)) (.inr (by assumption)) | fail)
    | fail))
  all_goals (try (have hx := (by assumption : (laAny p now).inv x); have hna := any_e hx (by assumption); have hxa := (by assumption : (!x.a) = true); have he := wv_no (p := p) (t := (Gs.p ⟨p.a, glN, 0, false⟩ p.q)) (a := (lf8 p.a 0 false now)) (now := now) rfl (by rw [hna]; simpa using hxa); (conv => whnf); rw [he.1, he.2]; (conv => whnf); refine o_one () (by (repeat' (first | ((conv => whnf); first | refine ⟨?_, ?_⟩ | exact trivial | fail) | (dsimp only; done) | ((try dsimp only); first | with_reducible exact rfl | exact Nat.le_refl _ | with_reducible exact (fun _ _ => rfl)))); all_goals ((first | rfl | exact fun _ _ => rfl))) ?_; exact hi))
  all_goals (have hx := (by assumption : (laAny p now).inv x); have hna := any_e hx (by assumption); have hxa := (by assumption : (!x.a) = false); have hany : anyTo p.q 8 = true := (by rw [hna]; simpa using hxa))
  · (conv => whnf); refine enter_mk (la := laW0 (Gs.p ⟨p.a, glN, 0, false⟩ p.q) (lf8 p.a 0 false now) now) y ?_ (by (repeat' (first | ((conv => whnf); first | refine ⟨?_, ?_⟩ | exact trivial | fail) | (dsimp only; done) | ((try dsimp only); first | with_reducible exact rfl | exact Nat.le_refl _ | with_reducible exact (fun _ _ => rfl)))); all_goals ((first | rfl | exact fun _ _ => rfl | skip)))
    exact ⟨And.right (by assumption), hany⟩
  · (conv => whnf); refine enter_mk (la := laW1 (Gs.p ⟨p.a, glN, 0, false⟩ p.q) (lf8 p.a 0 false now) now) ⟨y, 0, 0, false⟩ ?_ (by (repeat' (first | ((conv => whnf); first | refine ⟨?_, ?_⟩ | exact trivial | fail) | (dsimp only; done) | ((try dsimp only); first | with_reducible exact rfl | exact Nat.le_refl _ | with_reducible exact (fun _ _ => rfl)))); all_goals ((first | rfl | exact fun _ _ => rfl | skip)))
    have hy := (by assumption : (laW0 (Gs.p ⟨p.a, glN, 0, false⟩ p.q) (lf8 p.a 0 false now) now).inv y)
    exact ⟨hy, by show 0 ≤ 8; omega, rfl⟩
  · have hc := (by assumption : ((z.c : Nat) : Int) < 8)
    have hz := (by assumption : (laW1 (Gs.p ⟨p.a, glN, 0, false⟩ p.q) (lf8 p.a 0 false now) now).inv z)
    (conv => whnf)
    rw [wv_now (t := (Gs.p ⟨p.a, glN, 0, false⟩ p.q)) hany (wi_now hz hc (by assumption) (by assumption)), wv_p hany]
    (conv => whnf); refine o_one () (by (repeat' (first | ((conv => whnf); first | refine ⟨?_, ?_⟩ | exact trivial | fail) | (dsimp only; done) | ((try dsimp only); first | with_reducible exact rfl | exact Nat.le_refl _ | with_reducible exact (fun _ _ => rfl)))); all_goals ((first | rfl | exact fun _ _ => rfl | skip))) ?_; exact hti
  all_goals (have hz := (by assumption : (laW1 (Gs.p ⟨p.a, glN, 0, false⟩ p.q) (lf8 p.a 0 false now) now).inv z); (conv => whnf); rw [wv_end (t := (Gs.p ⟨p.a, glN, 0, false⟩ p.q)) hany (wi_end hz (by assumption)), wv_p hany])
  all_goals first
    | exact absurd (by assumption : (!z.f) = false) (by rw [(by assumption : z.f = false)]; decide)
    | ((first | rw [we_w (g := ⟨(Gs.p ⟨p.a, glN, 0, false⟩ p.q).l, (Gs.p ⟨p.a, glN, 0, false⟩ p.q).a, (Gs.p ⟨p.a, glN, 0, false⟩ p.q).fr, (Gs.p ⟨p.a, glN, 0, false⟩ p.q).wait⟩) (by assumption) (.inl (by assumption))] | rw [we_w (g := ⟨(Gs.p ⟨p.a, glN, 0, false⟩ p.q).l, (Gs.p ⟨p.a, glN, 0, false⟩ p.q).a, (Gs.p ⟨p.a, glN, 0, false⟩ p.q).fr, (Gs.p ⟨p.a, glN, 0, false⟩ p.q).wait⟩) (by assumption) (.inr (by assumption))] | rw [we_k (g := ⟨(Gs.p ⟨p.a, glN, 0, false⟩ p.q).l, (Gs.p ⟨p.a, glN, 0, false⟩ p.q).a, (Gs.p ⟨p.a, glN, 0, false⟩ p.q).fr, (Gs.p ⟨p.a, glN, 0, false⟩ p.q).wait⟩) (by assumption) (by assumption) (by assumption)] | rw [we_n (g := ⟨(Gs.p ⟨p.a, glN, 0, false⟩ p.q).l, (Gs.p ⟨p.a, glN, 0, false⟩ p.q).a, (Gs.p ⟨p.a, glN, 0, false⟩ p.q).fr, (Gs.p ⟨p.a, glN, 0, false⟩ p.q).wait⟩) (by assumption) (by assumption)] | rw [we_0 (g := ⟨(Gs.p ⟨p.a, glN, 0, false⟩ p.q).l, (Gs.p ⟨p.a, glN, 0, false⟩ p.q).a, (Gs.p ⟨p.a, glN, 0, false⟩ p.q).fr, (Gs.p ⟨p.a, glN, 0, false⟩ p.q).wait⟩) (by assumption) (by assumption)] | fail); (conv => whnf); refine o_one () (by (repeat' (first | ((conv => whnf); first | refine ⟨?_, ?_⟩ | exact trivial | fail) | (dsimp only; done) | ((try dsimp only); first | with_reducible exact rfl | exact Nat.le_refl _ | with_reducible exact (fun _ _ => rfl)))); all_goals ((first | rfl | exact fun _ _ => rfl))) ?_; exact hti)
    | fail
end
theorem wV_eq {p : Pt} {now : Int} {t : Pt} {a : A8} (h : (atG p.g now).p p.q = t) (ha : lfA p.g now = a) : whV p now = wV t a now := by
  subst h; subst ha; rfl
theorem wP_eq {p : Pt} {now : Int} {t : Pt} (h : (atG p.g now).p p.q = t) : whP p now = wP p t := by subst h; rfl
noncomputable def cxWhB (p : Pt) (now : Int) : Cx Try.prog := cxWh p ((atG p.g now).p p.q) (lfA p.g now) now
theorem wh_runs (p : Pt) (now : Int) (hn : nxOK now) (h : Unit) (hi : PtInv p) : Runs (cxWhB p now) Try.f14 (.one (.a (.ptr 0 0)) :: [int_ .i64 now]) (ptMem p) fun v m => ghosted (fun _ m => nilG 0 5 m) v m fun v m => anyO ptK (ptRen 0 m) v m [.one (.tup [.a (i_ (whV p now).1), .a (b_ (whV p now).2)]) (ptP (whP p now))] := by
  by_cases hs : swB p.g now
  · have e1 : (atG p.g now).p p.q = Gs.p ⟨p.a, glN, 0, false⟩ p.q := by rw [atG_sw hs]; rfl
    have e2 : lfA p.g now = lf8 p.a 0 false now := by unfold lfA; rw [atG_sw hs]; rfl
    unfold cxWhB
    rw [wV_eq e1 e2, wP_eq e1, e1, e2]
    exact wh_runs1 p now hs hn h hi
  · have e1 : (atG p.g now).p p.q = p.g.p p.q := by rw [atG_no hs]
    have e2 : lfA p.g now = lf8 p.l p.fr p.wait now := by unfold lfA; rw [atG_no hs]; rfl
    unfold cxWhB
    rw [wV_eq e1 e2, wP_eq e1, e1, e2]
    exact wh_runs0 p now hs hn h hi
noncomputable def whS : ESpec Try.prog := obN fn14 69 ptK (.s1 (.int .i64)) ptR ptP ptR_ok (fun _ => rfl) (fun p now _ => cxWhB p now) (fun _ now => nxOK now) (fun p now => [.one (.tup [.a (i_ (whV p now).1), .a (b_ (whV p now).2)]) (ptP (whP p now))]) (fun _ m => nilG 0 5 m) (fun _ m => ptRen 0 m) (fun _ _ _ => rfl) (fun p now hn h hi => wh_runs p now hn h hi)

end Go.Proofs.Ytaadejgoafdbcaa
