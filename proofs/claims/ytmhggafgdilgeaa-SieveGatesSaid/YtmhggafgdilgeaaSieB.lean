/-
  Contracts of functions, and plain facts about them, that a claim of this seat uses.
-/
import Derived.Test.YtmhggafgdilgeaaSx
import Derived.Test.YtmhggafgdilgeaaSieA
import Derived.Test.YtmhggafgdilgeaaProg
namespace Go.Proofs.Ytmhggafgdilgeaa
open Go.Sx
set_option linter.unusedVariables false
set_option linter.unusedSimpArgs false
set_option maxRecDepth 100000

/-! sieve: pass, In, Open, Counts. -/
def upB (g : Nat → Bool) (i : Nat) (b : Bool) : Nat → Bool := fun q => if q = i then b else g q
def upC (g : Nat → Nat → Int) (k i : Nat) : Nat → Nat → Int := fun j q => if j = k then (if q = i then IntKind.i64.wrap (g k i + 1) else g j q) else g j q
def psW (t : Sv) (i z : Int) : Int := if t.bl i.toNat = true then 5 else if 0 < t.c.mx i.toNat ∧ t.c.mx i.toNat < z then 2 else 0
def psT (t : Sv) (i z : Int) : Sv := if psW t i z = 2 then { t with bl := upB t.bl i.toNat (t.c.sh i.toNat) } else t
noncomputable def cxPs : Cx Try.prog := { ps := [fdS], es := [], is := [], n0 := 1, loops := fun _ => none, cuts := fun _ => none }
theorem ps_5 {t : Sv} {i z : Int} (h : t.bl i.toNat = true) : psW t i z = 5 ∧ psT t i z = t := by
  have h1 : psW t i z = 5 := if_pos h
  exact ⟨h1, if_neg (by rw [h1]; decide)⟩
theorem ps_2 {t : Sv} {i z : Int} (h : t.bl i.toNat = false) (h2 : 0 < t.c.mx i.toNat ∧ t.c.mx i.toNat < z) : psW t i z = 2 ∧ psT t i z = { t with bl := upB t.bl i.toNat (t.c.sh i.toNat) } := by
  have h1 : psW t i z = 2 := by unfold psW; rw [if_neg (by rw [h]; decide), if_pos h2]
  exact ⟨h1, if_pos h1⟩
theorem ps_0 {t : Sv} {i z : Int} (h : t.bl i.toNat = false) (h2 : ¬ (0 < t.c.mx i.toNat ∧ t.c.mx i.toNat < z)) : psW t i z = 0 ∧ psT t i z = t := by
  have h1 : psW t i z = 0 := by unfold psW; rw [if_neg (by rw [h]; decide), if_neg h2]
  exact ⟨h1, if_neg (by rw [h1]; decide)⟩
theorem sv_up {t : Sv} {b : Nat → Bool} (h : SvInv t) : SvInv { t with bl := b } := ⟨h.n, h.cap, h.none_⟩
theorem sv_ct {t : Sv} {g : Nat → Nat → Int} (h : SvInv t) : SvInv { t with ct := g } := ⟨h.n, h.cap, h.none_⟩
section
attribute [local irreducible] anyO
set_option maxHeartbeats 8000000 in
theorem ps_runs (t : Sv) (y : Int × Int × Int) (hp : 0 ≤ y.2.1 ∧ y.2.1 < t.n) (hi : SvInv t) : Runs cxPs Try.f16 (.one (.a (.ptr 0 0)) :: [int_ .i64 y.1, int_ .i64 y.2.1, int_ .i64 y.2.2]) (svMem t) fun v m => ghosted (fun _ _ => []) v m fun v m => anyO svK svRen v m [.one (.tup [.a (i_ (psW t y.2.1 y.2.2)), .a .ff]) (svP (psT t y.2.1 y.2.2))] := by
  obtain ⟨now, i, z⟩ := y
  dsimp only at hp ⊢
  have hcap := hi.cap
  have hn := hi.none_ (0 + i.toNat) (by omega)
  have h0 : 0 + i.toNat = i.toNat := Nat.zero_add _
  repeat' (first | with_reducible exact trivial | with_reducible exact rfl | with_reducible exact Nat.le_refl _ | with_reducible exact (fun _ _ => rfl) | ((conv => whnf); first | (exact fun h => absurd h (by decide)) | (intro h9; (have h8 := of_decide_eq_true (p := type_of% h9) (by decide)); clear h8 h9) | (refine fun _ => ?_) | refine ⟨?_, ?_⟩ | exact trivial | exact Nat.le_refl _ | exact lex_q (by kernel_rfl) | exact lex_t (by kernel_rfl) | exact lex_h (by kernel_rfl) | fail))
  all_goals (try omega)
  · rw [h0] at *
    rw [(ps_5 (z := z) (by assumption)).1, (ps_5 (z := z) (by assumption)).2]
    (conv => whnf); refine o_one () (by (repeat' (first | ((conv => whnf); first | refine ⟨?_, ?_⟩ | exact trivial | fail) | (dsimp only; done) | ((try dsimp only); first | with_reducible exact rfl | exact Nat.le_refl _ | with_reducible exact (fun _ _ => rfl)))); all_goals ((first | rfl | exact fun _ _ => rfl | (intro r _; rw [h0]; rfl) | (intro r _; rw [← h0]; rfl)))) ?_; exact hi
  · have e1 := (by assumption : t.bl (0 + i.toNat) = false)
    have e2 := (by assumption : 0 < t.c.mx (0 + i.toNat))
    have e3 := (by assumption : t.c.mx (0 + i.toNat) < z)
    rw [h0] at e1 e2 e3
    rw [(ps_2 e1 ⟨e2, e3⟩).1, (ps_2 e1 ⟨e2, e3⟩).2]
    (conv => whnf); refine o_one () (by (repeat' (first | ((conv => whnf); first | refine ⟨?_, ?_⟩ | exact trivial | fail) | (dsimp only; done) | ((try dsimp only); first | with_reducible exact rfl | exact Nat.le_refl _ | with_reducible exact (fun _ _ => rfl)))); all_goals ((first | rfl | exact fun _ _ => rfl | (intro r _; rw [h0]; rfl) | (intro r _; rw [← h0]; rfl)))) ?_; exact ⟨hi.n, hi.cap, hi.none_⟩
  · have e1 := (by assumption : t.bl (0 + i.toNat) = false)
    have e2 := (by assumption : ¬ t.c.mx (0 + i.toNat) < z)
    rw [h0] at e1 e2
    rw [(ps_0 e1 (fun h => e2 h.2)).1, (ps_0 e1 (fun h => e2 h.2)).2]
    (conv => whnf); refine o_one () (by (repeat' (first | ((conv => whnf); first | refine ⟨?_, ?_⟩ | exact trivial | fail) | (dsimp only; done) | ((try dsimp only); first | with_reducible exact rfl | exact Nat.le_refl _ | with_reducible exact (fun _ _ => rfl)))); all_goals ((first | rfl | exact fun _ _ => rfl | (intro r _; rw [h0]; rfl) | (intro r _; rw [← h0]; rfl)))) ?_; exact hi
  · have e1 := (by assumption : t.bl (0 + i.toNat) = false)
    have e2 := (by assumption : ¬ 0 < t.c.mx (0 + i.toNat))
    rw [h0] at e1 e2
    rw [(ps_0 e1 (fun h => e2 h.1)).1, (ps_0 e1 (fun h => e2 h.1)).2]
    (conv => whnf); refine o_one () (by (repeat' (first | ((conv => whnf); first | refine ⟨?_, ?_⟩ | exact trivial | fail) | (dsimp only; done) | ((try dsimp only); first | with_reducible exact rfl | exact Nat.le_refl _ | with_reducible exact (fun _ _ => rfl)))); all_goals ((first | rfl | exact fun _ _ => rfl | (intro r _; rw [h0]; rfl) | (intro r _; rw [← h0]; rfl)))) ?_; exact hi
end
noncomputable def psS : ESpec Try.prog := obN fn16 56 svK (.s3 (.int .i64) (.int .i64) (.int .i64)) svR svP svR_ok (fun _ => rfl) (fun _ _ _ => cxPs) (fun t y => 0 ≤ y.2.1 ∧ y.2.1 < t.n) (fun t y => [.one (.tup [.a (i_ (psW t y.2.1 y.2.2)), .a .ff]) (svP (psT t y.2.1 y.2.2))]) (fun _ _ => []) (fun _ _ => svRen) (fun _ _ _ => rfl) (fun t y hp _ hi => ps_runs t y hp hi)
/-! In -/
structure InA where
  now : Int
  port : Int
  vid : Int
  d : Mc
  s : Mc
  prio : Int
  size : Int
def Sig.inA : Sig InA where
  sh := [.a (.i .i64), .a (.i .i64), .a (.i .i64), Lens.mc.sp, Lens.mc.sp, .a (.i .i64), .a (.i .i64)]
  pat := fun a => match a with
    | [.a (.i .i64 n), .a (.i .i64 p), .a (.i .i64 v), .agg [.i .u8 a0, .i .u8 a1, .i .u8 a2, .i .u8 a3, .i .u8 a4, .i .u8 a5], .agg [.i .u8 b0, .i .u8 b1, .i .u8 b2, .i .u8 b3, .i .u8 b4, .i .u8 b5], .a (.i .i64 q), .a (.i .i64 z)] => some ⟨n, p, v, ⟨a0, a1, a2, a3, a4, a5⟩, ⟨b0, b1, b2, b3, b4, b5⟩, q, z⟩
    | _ => none
  arg := fun x => [.a (.i .i64 x.now), .a (.i .i64 x.port), .a (.i .i64 x.vid), Lens.mc.arg x.d, Lens.mc.arg x.s, .a (.i .i64 x.prio), .a (.i .i64 x.size)]
  ok := fun a x h => by
    split at h
    · cases h; rfl
    · cases h
def fI (t : Sv) (y : InA) : Int := fnd t y.port y.vid y.d y.s
def inW (t : Sv) (y : InA) : Int := if fI t y < 0 then 1 else psW t (fI t y) y.size
def inQ (t : Sv) (y : InA) : Int := if fI t y < 0 then y.prio else if psW t (fI t y) y.size = 0 then (if 0 ≤ t.c.pr (fI t y).toNat then t.c.pr (fI t y).toNat else y.prio) else 0
def inT (t : Sv) (y : InA) : Sv := if fI t y < 0 then { t with ct := upC t.ct 1 t.n } else { psT t (fI t y) y.size with ct := upC t.ct (psW t (fI t y) y.size).toNat (fI t y).toNat }
def inV (t : Sv) (y : InA) : SV := .tup [.a (i_ (fI t y)), .a (i_ (inQ t y)), .a .ff, .a (i_ (inW t y))]
abbrev laFi (t : Sv) (y : InA) : LA where
  ι := Nat
  inv := fun i => i ≤ t.n ∧ ∀ j, j < i → ¬ hits t.c y.port y.vid y.d y.s j
  T := fun i => ⟨53, [(1, int_ .i64 y.port), (2, int_ .i64 y.vid), (8, .one (.a (.ptr 6 0))), (9, .one (.a (.ptr 7 0))), (10, int_ .i64 0), (19, .one (.a (.slc 1 14 0 t.n t.cap))), (20, int_ .i64 t.n), (21, int_ .i64 i)], svMem t ++ [some ⟨true, .flat (mcL y.d)⟩, some ⟨true, .flat (mcL y.s)⟩, some ⟨true, .flat (mcL y.d)⟩, some ⟨true, .flat (mcL y.s)⟩]⟩
  μ := fun i => t.n - i
  ren := fun S => [0, 1, 2, 3, 4, 5, S.ix 8, S.ix 9]
abbrev laA (t : Sv) (y : InA) : LA where
  ι := Unit
  inv := fun _ => True
  T := fun _ => ⟨89, [(0, .one (.a (.ptr 0 0))), (1, int_ .i64 y.now), (6, int_ .i64 y.prio), (7, int_ .i64 y.size), (20, int_ .i64 (fI t y))], svMem t⟩
  μ := fun _ => 0
  ren := fun _ => [0, 1, 2, 3]
inductive K3 where
  | k0 | k2 | k5
def K3.n : K3 → Nat
  | .k0 => 0 | .k2 => 2 | .k5 => 5
abbrev laB (t : Sv) (y : InA) : LA where
  ι := K3
  inv := fun k => 0 ≤ fI t y ∧ fI t y < t.n ∧ psW t (fI t y) y.size = k.n
  T := fun k => ⟨89, [(0, .one (.a (.ptr 0 0))), (6, int_ .i64 y.prio), (20, int_ .i64 (fI t y)), (21, int_ .i64 k.n), (22, .one (.a .ff))], svMem (psT t (fI t y) y.size)⟩
  μ := fun _ => 0
  ren := fun _ => [0, 1, 2, 3]
noncomputable def cxFi (t : Sv) (y : InA) : Cx Try.prog := { ps := [], es := [], is := [], n0 := 0, loops := fun i => match i with | 4 => some (.inv (laFi t y)) | _ => none, cuts := fun _ => none }
noncomputable def cxIn (t : Sv) (y : InA) : Cx Try.prog := { ps := [], es := [], is := [inl fn10 (cxFi t y), inl fn16 cxPs], n0 := 1, loops := fun _ => none, cuts := fun i => match i with | 4 => some (laA t y) | 8 => some (laB t y) | _ => none }
theorem fI_in (t : Sv) (y : InA) : fI t y = -1 ∨ (0 ≤ fI t y ∧ fI t y < t.n) := by
  rcases fnd_cases t y.port y.vid y.d y.s with h | ⟨i, h, h2, _⟩
  · exact .inl h.1
  · right
    show 0 ≤ fnd .. ∧ fnd .. < _
    rw [h]; omega
theorem up_hit {g : Nat → Nat → Int} {k i j : Nat} (h : j = i) (r : Nat) : upC g k i k r = if r = j then IntKind.i64.wrap (g k j + 1) else g k r := by
  subst h
  unfold upC
  rw [if_pos rfl]
theorem up_miss {g : Nat → Nat → Int} {k i j : Nat} (h : ¬ j = k) (r : Nat) : upC g k i j r = g j r := by
  unfold upC
  rw [if_neg h]
theorem psT_n (t : Sv) (i z : Int) : (psT t i z).n = t.n ∧ (psT t i z).cap = t.cap ∧ (psT t i z).c = t.c ∧ (psT t i z).ct = t.ct := by
  unfold psT
  split <;> exact ⟨rfl, rfl, rfl, rfl⟩
theorem ps_inv {t : Sv} {i z : Int} (h : SvInv t) : SvInv (psT t i z) := by
  unfold psT
  split
  · exact ⟨h.n, h.cap, h.none_⟩
  · exact h
theorem in_no {t : Sv} {a : InA} (h : fI t a < 0) : inV t a = .tup [.a (i_ (-1)), .a (i_ a.prio), .a .ff, .a (i_ 1)] ∧ inT t a = { t with ct := upC t.ct 1 t.n } := by
  have h1 : fI t a = -1 := by rcases fI_in t a with h1 | h1 <;> omega
  unfold inV inQ inW inT
  rw [if_pos h, if_pos h, if_pos h, h1]; exact ⟨rfl, rfl⟩
theorem in_k {t : Sv} {a : InA} {k : Nat} (h : 0 ≤ fI t a) (hk : psW t (fI t a) a.size = k) (h0 : k ≠ 0) : inV t a = .tup [.a (i_ (fI t a)), .a (i_ 0), .a .ff, .a (i_ k)] ∧ inT t a = { psT t (fI t a) a.size with ct := upC t.ct k (fI t a).toNat } := by
  have h1 : ¬ fI t a < 0 := by omega
  unfold inV inQ inW inT
  rw [if_neg h1, if_neg h1, if_neg h1, hk, if_neg (by omega), Int.toNat_natCast]; exact ⟨rfl, rfl⟩
theorem in_0 {t : Sv} {a : InA} {q : Int} (h : 0 ≤ fI t a) (hk : psW t (fI t a) a.size = ((0 : Nat) : Int)) (hq : (if 0 ≤ t.c.pr (fI t a).toNat then t.c.pr (fI t a).toNat else a.prio) = q) : inV t a = .tup [.a (i_ (fI t a)), .a (i_ q), .a .ff, .a (i_ 0)] ∧ inT t a = { psT t (fI t a) a.size with ct := upC t.ct 0 (fI t a).toNat } := by
  have h1 : ¬ fI t a < 0 := by omega
  unfold inV inQ inW inT
  rw [if_neg h1, if_neg h1, if_neg h1, hk, hq, if_pos (show ((0 : Nat) : Int) = 0 from rfl)]; exact ⟨rfl, rfl⟩
section
attribute [local irreducible] anyO enter fnd psW psT
set_option maxHeartbeats 8000000 in
theorem in_runs (t : Sv) (a : InA) (hi : SvInv t) : Runs (cxIn t a) Try.f9 (.one (.a (.ptr 0 0)) :: [int_ .i64 a.now, int_ .i64 a.port, int_ .i64 a.vid, mcC a.d, mcC a.s, int_ .i64 a.prio, int_ .i64 a.size]) (svMem t) fun v m => ghosted (fun _ _ => []) v m fun v m => anyO svK svRen v m [.one (inV t a) (svP (inT t a))] := by
  have hcap := hi.cap
  have hn64 := hi.n
  obtain ⟨p1, p2, p3, p4⟩ := psT_n t (fI t a) a.size
  have hF := fI_in t a
  repeat' (first | with_reducible exact trivial | with_reducible exact rfl | with_reducible exact Nat.le_refl _ | with_reducible exact (fun _ _ => rfl) | ((conv => whnf); first | (refine fun (x : Unit) => ?_) | (refine fun (y : Nat) => ?_) | ((refine fun (z : K3) => ?_); rcases z with z | z | z) | (exact fun h => absurd h (by decide)) | (intro h9; (have h8 := of_decide_eq_true (p := type_of% h9) (by decide)); clear h8 h9) | (refine fun _ => ?_) | refine ⟨?_, ?_⟩ | exact trivial | exact Nat.le_refl _ | exact lex_q (by kernel_rfl) | exact lex_t (by kernel_rfl) | exact lex_h (by kernel_rfl) | fail))
  all_goals (try exact eq23)
  all_goals (try (have hx := (by assumption : (laFi t a).inv y); dsimp only [laFi] at hx; have hx0 : 0 + Int.toNat (y : Int) = y := (by omega)))
  all_goals (try (have hz2 : 0 ≤ fI t a ∧ fI t a < t.n := (by first | exact ⟨(by assumption : (laB t a).inv K3.k0).1, (by assumption : (laB t a).inv K3.k0).2.1⟩ | exact ⟨(by assumption : (laB t a).inv K3.k2).1, (by assumption : (laB t a).inv K3.k2).2.1⟩ | exact ⟨(by assumption : (laB t a).inv K3.k5).1, (by assumption : (laB t a).inv K3.k5).2.1⟩)))
  all_goals (try (have hg : ¬ fI t a < 0 := (by omega); have hnn := hi.none_ (0 + Int.toNat (fI t a)) (by omega); have hz3 : 0 + Int.toNat (fI t a) = Int.toNat (fI t a) := Nat.zero_add _))
  all_goals (try omega)
  all_goals (try with_reducible decide)
  · (conv => whnf); refine enter_mk (la := laFi t a) 0 ?_ (by (repeat' (first | ((conv => whnf); first | refine ⟨?_, ?_⟩ | exact trivial | fail) | (dsimp only; done) | ((try dsimp only); first | with_reducible exact rfl | exact Nat.le_refl _ | with_reducible exact (fun _ _ => rfl)))); all_goals ((first | rfl | exact fun _ _ => rfl | decide)))
    exact ⟨Nat.zero_le _, fun j hj => absurd hj (Nat.not_lt_zero _)⟩
  all_goals (try (have hx1 : y < t.n := (by omega)))
  · have hh : hits t.c a.port a.vid a.d a.s (0 + Int.toNat y) := by unfold hits eqM mcAt; simp_all
    rw [hx0] at hh
    have hf : fI t a = y := fnd_at hx.2 hx1 hh
    (conv => whnf); refine enter_mk (la := laA t a) () ?_ (by (repeat' (first | ((conv => whnf); first | refine ⟨?_, ?_⟩ | exact trivial | fail) | (dsimp only; done) | ((try dsimp only); first | with_reducible exact rfl | exact Nat.le_refl _ | with_reducible exact (fun _ _ => rfl)))); all_goals ((first | rfl | exact fun _ _ => rfl | exact hf.symm | exact hf)))
    trivial
  · have hh : ¬ hits t.c a.port a.vid a.d a.s (0 + Int.toNat y) := by unfold hits eqM mcAt; simp_all; try (intro h9; omega)
    rw [hx0] at hh
    (conv => whnf); refine enter_mk (la := laFi t a) (y + 1) ?_ (by (repeat' (first | ((conv => whnf); first | refine ⟨?_, ?_⟩ | exact trivial | fail) | (dsimp only; done) | ((try dsimp only); first | with_reducible exact rfl | exact Nat.le_refl _ | with_reducible exact (fun _ _ => rfl)))); all_goals ((first | rfl | exact fun _ _ => rfl | (show t.n - (y + 1) < t.n - y; omega) | (dsimp only; rw [w64' (by omega) (by omega)]; omega))))
    exact ⟨by show y + 1 ≤ t.n; omega, fun j hj => by
      rcases (by have hj : j < y + 1 := hj; omega : j < y ∨ j = y) with h9 | rfl
      · exact hx.2 j h9
      · exact hh⟩
  · have hh : ¬ hits t.c a.port a.vid a.d a.s (0 + Int.toNat y) := by unfold hits eqM mcAt; simp_all; try (intro h9; omega)
    rw [hx0] at hh
    (conv => whnf); refine enter_mk (la := laFi t a) (y + 1) ?_ (by (repeat' (first | ((conv => whnf); first | refine ⟨?_, ?_⟩ | exact trivial | fail) | (dsimp only; done) | ((try dsimp only); first | with_reducible exact rfl | exact Nat.le_refl _ | with_reducible exact (fun _ _ => rfl)))); all_goals ((first | rfl | exact fun _ _ => rfl | (show t.n - (y + 1) < t.n - y; omega) | (dsimp only; rw [w64' (by omega) (by omega)]; omega))))
    exact ⟨by show y + 1 ≤ t.n; omega, fun j hj => by
      rcases (by have hj : j < y + 1 := hj; omega : j < y ∨ j = y) with h9 | rfl
      · exact hx.2 j h9
      · exact hh⟩
  · have hh : hits t.c a.port a.vid a.d a.s (0 + Int.toNat y) := by unfold hits eqM mcAt; simp_all
    rw [hx0] at hh
    have hf : fI t a = y := fnd_at hx.2 hx1 hh
    (conv => whnf); refine enter_mk (la := laA t a) () ?_ (by (repeat' (first | ((conv => whnf); first | refine ⟨?_, ?_⟩ | exact trivial | fail) | (dsimp only; done) | ((try dsimp only); first | with_reducible exact rfl | exact Nat.le_refl _ | with_reducible exact (fun _ _ => rfl)))); all_goals ((first | rfl | exact fun _ _ => rfl | exact hf.symm | exact hf)))
    trivial
  · have hh : ¬ hits t.c a.port a.vid a.d a.s (0 + Int.toNat y) := by unfold hits eqM mcAt; simp_all; try (intro h9; omega)
    rw [hx0] at hh
    (conv => whnf); refine enter_mk (la := laFi t a) (y + 1) ?_ (by (repeat' (first | ((conv => whnf); first | refine ⟨?_, ?_⟩ | exact trivial | fail) | (dsimp only; done) | ((try dsimp only); first | with_reducible exact rfl | exact Nat.le_refl _ | with_reducible exact (fun _ _ => rfl)))); all_goals ((first | rfl | exact fun _ _ => rfl | (show t.n - (y + 1) < t.n - y; omega) | (dsimp only; rw [w64' (by omega) (by omega)]; omega))))
    exact ⟨by show y + 1 ≤ t.n; omega, fun j hj => by
      rcases (by have hj : j < y + 1 := hj; omega : j < y ∨ j = y) with h9 | rfl
      · exact hx.2 j h9
      · exact hh⟩
  · have hh : ¬ hits t.c a.port a.vid a.d a.s (0 + Int.toNat y) := by unfold hits eqM mcAt; simp_all; try (intro h9; omega)
    rw [hx0] at hh
    (conv => whnf); refine enter_mk (la := laFi t a) (y + 1) ?_ (by (repeat' (first | ((conv => whnf); first | refine ⟨?_, ?_⟩ | exact trivial | fail) | (dsimp only; done) | ((try dsimp only); first | with_reducible exact rfl | exact Nat.le_refl _ | with_reducible exact (fun _ _ => rfl)))); all_goals ((first | rfl | exact fun _ _ => rfl | (show t.n - (y + 1) < t.n - y; omega) | (dsimp only; rw [w64' (by omega) (by omega)]; omega))))
    exact ⟨by show y + 1 ≤ t.n; omega, fun j hj => by
      rcases (by have hj : j < y + 1 := hj; omega : j < y ∨ j = y) with h9 | rfl
      · exact hx.2 j h9
      · exact hh⟩
  · have hh : ¬ hits t.c a.port a.vid a.d a.s (0 + Int.toNat y) := by unfold hits eqM mcAt; simp_all; try (intro h9; omega)
    rw [hx0] at hh
    (conv => whnf); refine enter_mk (la := laFi t a) (y + 1) ?_ (by (repeat' (first | ((conv => whnf); first | refine ⟨?_, ?_⟩ | exact trivial | fail) | (dsimp only; done) | ((try dsimp only); first | with_reducible exact rfl | exact Nat.le_refl _ | with_reducible exact (fun _ _ => rfl)))); all_goals ((first | rfl | exact fun _ _ => rfl | (show t.n - (y + 1) < t.n - y; omega) | (dsimp only; rw [w64' (by omega) (by omega)]; omega))))
    exact ⟨by show y + 1 ≤ t.n; omega, fun j hj => by
      rcases (by have hj : j < y + 1 := hj; omega : j < y ∨ j = y) with h9 | rfl
      · exact hx.2 j h9
      · exact hh⟩
  · have hh : hits t.c a.port a.vid a.d a.s (0 + Int.toNat y) := by unfold hits eqM mcAt; simp_all
    rw [hx0] at hh
    have hf : fI t a = y := fnd_at hx.2 hx1 hh
    (conv => whnf); refine enter_mk (la := laA t a) () ?_ (by (repeat' (first | ((conv => whnf); first | refine ⟨?_, ?_⟩ | exact trivial | fail) | (dsimp only; done) | ((try dsimp only); first | with_reducible exact rfl | exact Nat.le_refl _ | with_reducible exact (fun _ _ => rfl)))); all_goals ((first | rfl | exact fun _ _ => rfl | exact hf.symm | exact hf)))
    trivial
  · have hh : ¬ hits t.c a.port a.vid a.d a.s (0 + Int.toNat y) := by unfold hits eqM mcAt; simp_all; try (intro h9; omega)
    rw [hx0] at hh
    (conv => whnf); refine enter_mk (la := laFi t a) (y + 1) ?_ (by (repeat' (first | ((conv => whnf); first | refine ⟨?_, ?_⟩ | exact trivial | fail) | (dsimp only; done) | ((try dsimp only); first | with_reducible exact rfl | exact Nat.le_refl _ | with_reducible exact (fun _ _ => rfl)))); all_goals ((first | rfl | exact fun _ _ => rfl | (show t.n - (y + 1) < t.n - y; omega) | (dsimp only; rw [w64' (by omega) (by omega)]; omega))))
    exact ⟨by show y + 1 ≤ t.n; omega, fun j hj => by
      rcases (by have hj : j < y + 1 := hj; omega : j < y ∨ j = y) with h9 | rfl
      · exact hx.2 j h9
      · exact hh⟩
  · have hh : ¬ hits t.c a.port a.vid a.d a.s (0 + Int.toNat y) := by unfold hits eqM mcAt; simp_all; try (intro h9; omega)
    rw [hx0] at hh
    (conv => whnf); refine enter_mk (la := laFi t a) (y + 1) ?_ (by (repeat' (first | ((conv => whnf); first | refine ⟨?_, ?_⟩ | exact trivial | fail) | (dsimp only; done) | ((try dsimp only); first | with_reducible exact rfl | exact Nat.le_refl _ | with_reducible exact (fun _ _ => rfl)))); all_goals ((first | rfl | exact fun _ _ => rfl | (show t.n - (y + 1) < t.n - y; omega) | (dsimp only; rw [w64' (by omega) (by omega)]; omega))))
    exact ⟨by show y + 1 ≤ t.n; omega, fun j hj => by
      rcases (by have hj : j < y + 1 := hj; omega : j < y ∨ j = y) with h9 | rfl
      · exact hx.2 j h9
      · exact hh⟩
  · have hh : hits t.c a.port a.vid a.d a.s (0 + Int.toNat y) := by unfold hits eqM mcAt; simp_all
    rw [hx0] at hh
    have hf : fI t a = y := fnd_at hx.2 hx1 hh
    (conv => whnf); refine enter_mk (la := laA t a) () ?_ (by (repeat' (first | ((conv => whnf); first | refine ⟨?_, ?_⟩ | exact trivial | fail) | (dsimp only; done) | ((try dsimp only); first | with_reducible exact rfl | exact Nat.le_refl _ | with_reducible exact (fun _ _ => rfl)))); all_goals ((first | rfl | exact fun _ _ => rfl | exact hf.symm | exact hf)))
    trivial
  · have hh : ¬ hits t.c a.port a.vid a.d a.s (0 + Int.toNat y) := by unfold hits eqM mcAt; simp_all; try (intro h9; omega)
    rw [hx0] at hh
    (conv => whnf); refine enter_mk (la := laFi t a) (y + 1) ?_ (by (repeat' (first | ((conv => whnf); first | refine ⟨?_, ?_⟩ | exact trivial | fail) | (dsimp only; done) | ((try dsimp only); first | with_reducible exact rfl | exact Nat.le_refl _ | with_reducible exact (fun _ _ => rfl)))); all_goals ((first | rfl | exact fun _ _ => rfl | (show t.n - (y + 1) < t.n - y; omega) | (dsimp only; rw [w64' (by omega) (by omega)]; omega))))
    exact ⟨by show y + 1 ≤ t.n; omega, fun j hj => by
      rcases (by have hj : j < y + 1 := hj; omega : j < y ∨ j = y) with h9 | rfl
      · exact hx.2 j h9
      · exact hh⟩
  · have hh : ¬ hits t.c a.port a.vid a.d a.s (0 + Int.toNat y) := by unfold hits eqM mcAt; simp_all; try (intro h9; omega)
    rw [hx0] at hh
    (conv => whnf); refine enter_mk (la := laFi t a) (y + 1) ?_ (by (repeat' (first | ((conv => whnf); first | refine ⟨?_, ?_⟩ | exact trivial | fail) | (dsimp only; done) | ((try dsimp only); first | with_reducible exact rfl | exact Nat.le_refl _ | with_reducible exact (fun _ _ => rfl)))); all_goals ((first | rfl | exact fun _ _ => rfl | (show t.n - (y + 1) < t.n - y; omega) | (dsimp only; rw [w64' (by omega) (by omega)]; omega))))
    exact ⟨by show y + 1 ≤ t.n; omega, fun j hj => by
      rcases (by have hj : j < y + 1 := hj; omega : j < y ∨ j = y) with h9 | rfl
      · exact hx.2 j h9
      · exact hh⟩
  · have hh : ¬ hits t.c a.port a.vid a.d a.s (0 + Int.toNat y) := by unfold hits eqM mcAt; simp_all; try (intro h9; omega)
    rw [hx0] at hh
    (conv => whnf); refine enter_mk (la := laFi t a) (y + 1) ?_ (by (repeat' (first | ((conv => whnf); first | refine ⟨?_, ?_⟩ | exact trivial | fail) | (dsimp only; done) | ((try dsimp only); first | with_reducible exact rfl | exact Nat.le_refl _ | with_reducible exact (fun _ _ => rfl)))); all_goals ((first | rfl | exact fun _ _ => rfl | (show t.n - (y + 1) < t.n - y; omega) | (dsimp only; rw [w64' (by omega) (by omega)]; omega))))
    exact ⟨by show y + 1 ≤ t.n; omega, fun j hj => by
      rcases (by have hj : j < y + 1 := hj; omega : j < y ∨ j = y) with h9 | rfl
      · exact hx.2 j h9
      · exact hh⟩
  · have hf : fI t a = -1 := fnd_no fun j hj => hx.2 j (by omega)
    (conv => whnf); refine enter_mk (la := laA t a) () ?_ (by (repeat' (first | ((conv => whnf); first | refine ⟨?_, ?_⟩ | exact trivial | fail) | (dsimp only; done) | ((try dsimp only); first | with_reducible exact rfl | exact Nat.le_refl _ | with_reducible exact (fun _ _ => rfl)))); all_goals ((first | rfl | exact fun _ _ => rfl | exact hf.symm | exact hf)))
    trivial
  · rw [(in_no (by assumption)).1, (in_no (by assumption)).2]
    (conv => whnf); refine o_one () (by (repeat' (first | ((conv => whnf); first | refine ⟨?_, ?_⟩ | exact trivial | fail) | (dsimp only; done) | ((try dsimp only); first | with_reducible exact rfl | exact Nat.le_refl _ | with_reducible exact (fun _ _ => rfl)))); all_goals ((first | rfl | exact fun _ _ => rfl | exact p1 | exact p2 | exact p1.symm | exact fun r _ => up_hit (g := t.ct) (k := 1) (i := t.n) (j := 0 + Int.toNat (t.n : Int)) (by omega) r | exact fun r _ => up_hit (g := (psT t (fI t a) a.size).ct) (k := 1) (i := t.n) (j := 0 + Int.toNat (t.n : Int)) (by omega) r))) ?_; exact ⟨hi.n, hi.cap, hi.none_⟩
  · obtain ⟨e1, e2⟩ := ps_5 (t := t) (i := fI t a) (z := a.size) (by rw [← hz3]; assumption)
    (conv => whnf); refine enter_mk (la := laB t a) K3.k5 ?_ (by (repeat' (first | ((conv => whnf); first | refine ⟨?_, ?_⟩ | exact trivial | fail) | (dsimp only; done) | ((try dsimp only); first | with_reducible exact rfl | exact Nat.le_refl _ | with_reducible exact (fun _ _ => rfl)))); all_goals ((first | rfl | exact fun _ _ => rfl | exact e1.symm | exact e1 | (rw [e2]; done) | (rw [e2]; exact Nat.le_refl _) | (rw [e2]; exact fun _ _ => rfl) | (rw [e2]; exact fun r _ => by unfold upB; rw [hz3]))))
    exact ⟨by omega, by omega, e1⟩
  · obtain ⟨e1, e2⟩ := ps_2 (t := t) (i := fI t a) (z := a.size) (by rw [← hz3]; assumption) ⟨by rw [← hz3]; assumption, by rw [← hz3]; assumption⟩
    (conv => whnf); refine enter_mk (la := laB t a) K3.k2 ?_ (by (repeat' (first | ((conv => whnf); first | refine ⟨?_, ?_⟩ | exact trivial | fail) | (dsimp only; done) | ((try dsimp only); first | with_reducible exact rfl | exact Nat.le_refl _ | with_reducible exact (fun _ _ => rfl)))); all_goals ((first | rfl | exact fun _ _ => rfl | exact e1.symm | exact e1 | (rw [e2]; done) | (rw [e2]; exact Nat.le_refl _) | (rw [e2]; exact fun _ _ => rfl) | (rw [e2]; exact fun r _ => by unfold upB; rw [hz3]))))
    exact ⟨by omega, by omega, e1⟩
  · obtain ⟨e1, e2⟩ := ps_0 (t := t) (i := fI t a) (z := a.size) (by rw [← hz3]; assumption) (fun h9 => (by assumption : ¬ t.c.mx (0 + Int.toNat (fI t a)) < a.size) (by rw [hz3]; exact h9.2))
    (conv => whnf); refine enter_mk (la := laB t a) K3.k0 ?_ (by (repeat' (first | ((conv => whnf); first | refine ⟨?_, ?_⟩ | exact trivial | fail) | (dsimp only; done) | ((try dsimp only); first | with_reducible exact rfl | exact Nat.le_refl _ | with_reducible exact (fun _ _ => rfl)))); all_goals ((first | rfl | exact fun _ _ => rfl | exact e1.symm | exact e1 | (rw [e2]; done) | (rw [e2]; exact Nat.le_refl _) | (rw [e2]; exact fun _ _ => rfl) | (rw [e2]; exact fun r _ => by unfold upB; rw [hz3]))))
    exact ⟨by omega, by omega, e1⟩
  · obtain ⟨e1, e2⟩ := ps_0 (t := t) (i := fI t a) (z := a.size) (by rw [← hz3]; assumption) (fun h9 => (by assumption : ¬ 0 < t.c.mx (0 + Int.toNat (fI t a))) (by rw [hz3]; exact h9.1))
    (conv => whnf); refine enter_mk (la := laB t a) K3.k0 ?_ (by (repeat' (first | ((conv => whnf); first | refine ⟨?_, ?_⟩ | exact trivial | fail) | (dsimp only; done) | ((try dsimp only); first | with_reducible exact rfl | exact Nat.le_refl _ | with_reducible exact (fun _ _ => rfl)))); all_goals ((first | rfl | exact fun _ _ => rfl | exact e1.symm | exact e1 | (rw [e2]; done) | (rw [e2]; exact Nat.le_refl _) | (rw [e2]; exact fun _ _ => rfl) | (rw [e2]; exact fun r _ => by unfold upB; rw [hz3]))))
    exact ⟨by omega, by omega, e1⟩
  · have hk := (by assumption : (laB t a).inv K3.k0).2.2
    obtain ⟨e1, e2⟩ := in_0 (q := t.c.pr (0 + Int.toNat (fI t a))) (by omega) hk (by rw [hz3, if_pos]; have h9 := (by assumption : 0 ≤ (psT t (fI t a) a.size).c.pr (0 + Int.toNat (fI t a))); rw [p3, hz3] at h9; exact h9)
    rw [e1, e2, ← p4, ← p3]
    (conv => whnf); refine o_one () (by (repeat' (first | ((conv => whnf); first | refine ⟨?_, ?_⟩ | exact trivial | fail) | (dsimp only; done) | ((try dsimp only); first | with_reducible exact rfl | exact Nat.le_refl _ | with_reducible exact (fun _ _ => rfl)))); all_goals ((first | rfl | exact fun _ _ => rfl | exact p1 | exact p2 | exact p1.symm | exact fun r _ => up_hit (g := t.ct) (k := 0) (i := (fI t a).toNat) (j := 0 + Int.toNat (fI t a)) (by omega) r | exact fun r _ => up_hit (g := (psT t (fI t a) a.size).ct) (k := 0) (i := (fI t a).toNat) (j := 0 + Int.toNat (fI t a)) (by omega) r))) ?_; exact ⟨by show (psT t (fI t a) a.size).n ≤ 64; rw [p1]; exact hi.n, by show (psT t (fI t a) a.size).n ≤ (psT t (fI t a) a.size).cap ∧ (psT t (fI t a) a.size).cap ≤ 9223372036854775807; rw [p1, p2]; exact hi.cap, (ps_inv hi).none_⟩
  · have hk := (by assumption : (laB t a).inv K3.k0).2.2
    obtain ⟨e1, e2⟩ := in_0 (q := a.prio) (by omega) hk (by rw [if_neg]; have h9 := (by assumption : ¬ 0 ≤ (psT t (fI t a) a.size).c.pr (0 + Int.toNat (fI t a))); rw [p3, hz3] at h9; exact h9)
    rw [e1, e2, ← p4]
    (conv => whnf); refine o_one () (by (repeat' (first | ((conv => whnf); first | refine ⟨?_, ?_⟩ | exact trivial | fail) | (dsimp only; done) | ((try dsimp only); first | with_reducible exact rfl | exact Nat.le_refl _ | with_reducible exact (fun _ _ => rfl)))); all_goals ((first | rfl | exact fun _ _ => rfl | exact p1 | exact p2 | exact p1.symm | exact fun r _ => up_hit (g := t.ct) (k := 0) (i := (fI t a).toNat) (j := 0 + Int.toNat (fI t a)) (by omega) r | exact fun r _ => up_hit (g := (psT t (fI t a) a.size).ct) (k := 0) (i := (fI t a).toNat) (j := 0 + Int.toNat (fI t a)) (by omega) r))) ?_; exact ⟨by show (psT t (fI t a) a.size).n ≤ 64; rw [p1]; exact hi.n, by show (psT t (fI t a) a.size).n ≤ (psT t (fI t a) a.size).cap ∧ (psT t (fI t a) a.size).cap ≤ 9223372036854775807; rw [p1, p2]; exact hi.cap, (ps_inv hi).none_⟩
  · have hk := (by assumption : (laB t a).inv K3.k2).2.2
    obtain ⟨e1, e2⟩ := in_k (by omega) hk (by decide)
    rw [e1, e2, ← p4]
    (conv => whnf); refine o_one () (by (repeat' (first | ((conv => whnf); first | refine ⟨?_, ?_⟩ | exact trivial | fail) | (dsimp only; done) | ((try dsimp only); first | with_reducible exact rfl | exact Nat.le_refl _ | with_reducible exact (fun _ _ => rfl)))); all_goals ((first | rfl | exact fun _ _ => rfl | exact p1 | exact p2 | exact p1.symm | exact fun r _ => up_hit (g := t.ct) (k := 2) (i := (fI t a).toNat) (j := 0 + Int.toNat (fI t a)) (by omega) r | exact fun r _ => up_hit (g := (psT t (fI t a) a.size).ct) (k := 2) (i := (fI t a).toNat) (j := 0 + Int.toNat (fI t a)) (by omega) r))) ?_; exact ⟨by show (psT t (fI t a) a.size).n ≤ 64; rw [p1]; exact hi.n, by show (psT t (fI t a) a.size).n ≤ (psT t (fI t a) a.size).cap ∧ (psT t (fI t a) a.size).cap ≤ 9223372036854775807; rw [p1, p2]; exact hi.cap, (ps_inv hi).none_⟩
  · have hk := (by assumption : (laB t a).inv K3.k5).2.2
    obtain ⟨e1, e2⟩ := in_k (by omega) hk (by decide)
    rw [e1, e2, ← p4]
    (conv => whnf); refine o_one () (by (repeat' (first | ((conv => whnf); first | refine ⟨?_, ?_⟩ | exact trivial | fail) | (dsimp only; done) | ((try dsimp only); first | with_reducible exact rfl | exact Nat.le_refl _ | with_reducible exact (fun _ _ => rfl)))); all_goals ((first | rfl | exact fun _ _ => rfl | exact p1 | exact p2 | exact p1.symm | exact fun r _ => up_hit (g := t.ct) (k := 5) (i := (fI t a).toNat) (j := 0 + Int.toNat (fI t a)) (by omega) r | exact fun r _ => up_hit (g := (psT t (fI t a) a.size).ct) (k := 5) (i := (fI t a).toNat) (j := 0 + Int.toNat (fI t a)) (by omega) r))) ?_; exact ⟨by show (psT t (fI t a) a.size).n ≤ 64; rw [p1]; exact hi.n, by show (psT t (fI t a) a.size).n ≤ (psT t (fI t a) a.size).cap ∧ (psT t (fI t a) a.size).cap ≤ 9223372036854775807; rw [p1, p2]; exact hi.cap, (ps_inv hi).none_⟩
end
noncomputable def inS : ESpec Try.prog := obN fn9 56 svK Sig.inA svR svP svR_ok (fun _ => rfl) (fun t y _ => cxIn t y) (fun _ _ => True) (fun t y => [.one (inV t y) (svP (inT t y))]) (fun _ _ => []) (fun _ _ => svRen) (fun _ _ _ => rfl) (fun t y _ _ hi => in_runs t y hi)

end Go.Proofs.Ytmhggafgdilgeaa
