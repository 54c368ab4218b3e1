/-
  Contracts of functions, and plain facts about them, that a claim of this seat uses.
-/
import Derived.Test.YtmhggafgdilgeaaSx
import Derived.Test.YtmhggafgdilgeaaProg
namespace Go.Proofs.Ytmhggafgdilgeaa
open Go.Sx
set_option linter.unusedVariables false
set_option linter.unusedSimpArgs false
set_option maxRecDepth 100000

/-! sieve: a sieve without gates and meters, as an object; Find. -/
theorem mixed : Try.prog.follows .mixedOrders = true := by kernel_rfl
theorem fn8 : FnOf Try.prog 8 Try.f8 := ⟨Try.func8, rfl, rfl, mixed⟩
theorem fn9 : FnOf Try.prog 9 Try.f9 := ⟨Try.func9, rfl, rfl, mixed⟩
theorem fn10 : FnOf Try.prog 10 Try.f10 := ⟨Try.func10, rfl, rfl, mixed⟩
theorem fn11 : FnOf Try.prog 11 Try.f11 := ⟨Try.func11, rfl, rfl, mixed⟩
theorem fn12 : FnOf Try.prog 12 Try.f12 := ⟨Try.func12, rfl, rfl, mixed⟩
theorem fn16 : FnOf Try.prog 16 Try.f16 := ⟨Try.func16, rfl, rfl, mixed⟩
theorem eq23 : EqOK Try.prog 23 := by unfold EqOK; kernel_rfl
def i_ (n : Int) : SA := .v (.int .i64 n)
def u_ (n : Int) : SA := .v (.int .u8 n)
def b_ (b : Bool) : SA := .v (.bool b)
/-- streams, by their columns -/
structure Sc where
  po : Nat → Int
  vid : Nat → Int
  m0 : Nat → Int
  m1 : Nat → Int
  m2 : Nat → Int
  m3 : Nat → Int
  m4 : Nat → Int
  m5 : Nat → Int
  src : Nat → Bool
  ga : Nat → Int
  pr : Nat → Int
  mx : Nat → Int
  sh : Nat → Bool
  ra : Nat → Int
def scC (c : Sc) : List Col := [.int .i64 c.po, .int .i64 c.vid, .int .u8 c.m0, .int .u8 c.m1, .int .u8 c.m2, .int .u8 c.m3, .int .u8 c.m4, .int .u8 c.m5, .bool c.src, .int .i64 c.ga, .int .i64 c.pr, .int .i64 c.mx, .bool c.sh, .int .i64 c.ra]
/-- a sieve: streams, which are blocked, counts (kind, stream) -/
structure Sv where
  n : Nat
  cap : Nat
  c : Sc
  bl : Nat → Bool
  ct : Nat → Nat → Int
def svP (s : Sv) : Pay := { ns := [s.n, s.cap], gs := [s.c.po, s.c.vid, s.c.m0, s.c.m1, s.c.m2, s.c.m3, s.c.m4, s.c.m5, s.c.ga, s.c.pr, s.c.mx, s.c.ra], hs := [s.c.src, s.c.sh, s.bl], g2 := [s.ct] }
def svR (p : Pay) : Option Sv := match p with
  | ⟨[], [n, cap], [], [], [po, vid, m0, m1, m2, m3, m4, m5, ga, pr, mx, ra], [src, sh, bl], [ct], [], []⟩ => some ⟨n, cap, ⟨po, vid, m0, m1, m2, m3, m4, m5, src, ga, pr, mx, sh, ra⟩, bl, ct⟩
  | _ => none
theorem svR_ok (p : Pay) (x : Sv) (h : svR p = some x) : p = svP x := by
  unfold svR at h
  split at h
  · cases h; rfl
  · cases h
def z0 : Nat → Int := fun _ => 0
def f0 : Nat → Bool := fun _ => false
def gAt (p : Pay) (k : Nat) : Nat → Int := p.gs.getD k z0
def hAt (p : Pay) (k : Nat) : Nat → Bool := p.hs.getD k f0
def svOf (p : Pay) : Sv := ⟨p.ns.headD 0, (p.ns.drop 1).headD 0, ⟨gAt p 0, gAt p 1, gAt p 2, gAt p 3, gAt p 4, gAt p 5, gAt p 6, gAt p 7, hAt p 0, gAt p 8, gAt p 9, gAt p 10, hAt p 1, gAt p 11⟩, hAt p 2, p.g2.headD fun _ => z0⟩
theorem svOf_P (s : Sv) : svOf (svP s) = s := rfl
def ctC (ct : Nat → Nat → Int) : List Col := [.int .i64 (ct 0), .int .i64 (ct 1), .int .i64 (ct 2), .int .i64 (ct 3), .int .i64 (ct 4), .int .i64 (ct 5)]
def nilS : SA := .v (.slice none 0 0)
def svCells (s : Sv) : List SA := [.slc 1 14 0 s.n s.cap, nilS, nilS, .slc 2 1 0 s.n s.n, .slc 3 6 0 (s.n + 1) (s.n + 1)]
def svMem (s : Sv) : Mem := [some ⟨true, .flat (svCells s)⟩, some ⟨true, .tab s.cap (scC s.c)⟩, some ⟨true, .tab s.n [.bool s.bl]⟩, some ⟨true, .tab (s.n + 1) (ctC s.ct)⟩]
structure SvInv (s : Sv) : Prop where
  n : s.n ≤ 64
  cap : s.n ≤ s.cap ∧ s.cap ≤ 9223372036854775807
  none_ : ∀ r, r < s.n → s.c.ga r < 0 ∧ s.c.ra r < 0
def svK : ObK where
  Hid := Unit
  mem := fun p _ => svMem (svOf p)
  inv := fun p _ => SvInv (svOf p)
  rw := fun p h i r hi => by
    rcases (by have := (List.getElem?_eq_some_iff.1 hi).1; change i < 4 at this; omega : i = 0 ∨ i = 1 ∨ i = 2 ∨ i = 3) with rfl | rfl | rfl | rfl <;> (cases hi; rfl)
  head := fun p h => ⟨_, _, rfl⟩
theorem o_one {K : ObK} {ρ : List Nat} {v : SV} {m : Mem} {v2 : SV} {x2 : Pay} (hd : K.Hid) (h2 : match idB 1 0 ρ, Nat.ble (K.mem x2 hd).length ρ.length, nodupB ρ, v2.ok 0, app2 (eqSV v2 v) (subMem ρ m 0 (K.mem x2 hd)) with
    | true, true, true, true, some l => allP l True
    | _, _, _, _, _ => False) (h1 : K.inv x2 hd) : anyO K ρ v m [.one v2 x2] := ⟨hd, h1, h2⟩
structure Mc where
  m0 : Int
  m1 : Int
  m2 : Int
  m3 : Int
  m4 : Int
  m5 : Int
def mcL (p : Mc) : List SA := [u_ p.m0, u_ p.m1, u_ p.m2, u_ p.m3, u_ p.m4, u_ p.m5]
def mcC (p : Mc) : SV := .one (.agg (mcL p))
def Lens.mc : Lens Mc where
  sp := .agg [.i .u8, .i .u8, .i .u8, .i .u8, .i .u8, .i .u8]
  pat := fun a => match a with
    | .agg [.i .u8 b, .i .u8 c, .i .u8 d, .i .u8 e, .i .u8 f, .i .u8 g] => some ⟨b, c, d, e, f, g⟩
    | _ => none
  arg := fun x => .agg [.i .u8 x.m0, .i .u8 x.m1, .i .u8 x.m2, .i .u8 x.m3, .i .u8 x.m4, .i .u8 x.m5]
  ok := fun a x h => by
    split at h
    · cases h; rfl
    · cases h
/-! Find -/
def mcAt (c : Sc) (r : Nat) : Mc := ⟨c.m0 r, c.m1 r, c.m2 r, c.m3 r, c.m4 r, c.m5 r⟩
def eqM (a b : Mc) : Prop := a.m0 = b.m0 ∧ a.m1 = b.m1 ∧ a.m2 = b.m2 ∧ a.m3 = b.m3 ∧ a.m4 = b.m4 ∧ a.m5 = b.m5
instance (a b : Mc) : Decidable (eqM a b) := by unfold eqM; exact inferInstance
/-- a stream that a frame is of -/
def hits (c : Sc) (p v : Int) (d s : Mc) (r : Nat) : Prop := (c.po r < 0 ∨ c.po r = p) ∧ c.vid r = v ∧ eqM (mcAt c r) (if c.src r = true then s else d)
instance (c : Sc) (p v : Int) (d s : Mc) (r : Nat) : Decidable (hits c p v d s r) := by unfold hits; exact inferInstance
def fndO (c : Sc) (p v : Int) (d s : Mc) : Nat → Nat → Option Nat
  | 0, _ => none
  | k + 1, r => if hits c p v d s r then some r else fndO c p v d s k (r + 1)
def fnd (t : Sv) (p v : Int) (d s : Mc) : Int := match fndO t.c p v d s t.n 0 with | some r => r | none => -1
theorem fndO_at {c : Sc} {p v : Int} {d s : Mc} : ∀ {k r i : Nat}, (∀ j, r ≤ j → j < r + i → ¬ hits c p v d s j) → i < k → hits c p v d s (r + i) → fndO c p v d s k r = some (r + i)
  | 0, _, _, _, hk, _ => absurd hk (Nat.not_lt_zero _)
  | k + 1, r, 0, _, _, hh => if_pos hh
  | k + 1, r, i + 1, hn, hk, hh => by
    have h0 := hn r (Nat.le_refl _) (by omega)
    show (if _ then _ else _) = _
    rw [if_neg h0, fndO_at (k := k) (r := r + 1) (i := i) (fun j h1 h2 => hn j (by omega) (by omega)) (by omega) (by rwa [show r + 1 + i = r + (i + 1) by omega])]
    congr 1; omega
theorem fndO_no {c : Sc} {p v : Int} {d s : Mc} : ∀ {k r : Nat}, (∀ j, r ≤ j → j < r + k → ¬ hits c p v d s j) → fndO c p v d s k r = none
  | 0, _, _ => rfl
  | k + 1, r, hn => by
    show (if _ then _ else _) = _
    rw [if_neg (hn r (Nat.le_refl _) (by omega))]
    exact fndO_no fun j h1 h2 => hn j (by omega) (by omega)
theorem fnd_at {t : Sv} {p v : Int} {d s : Mc} {i : Nat} (hn : ∀ j, j < i → ¬ hits t.c p v d s j) (hi : i < t.n) (hh : hits t.c p v d s i) : fnd t p v d s = i := by
  have := fndO_at (c := t.c) (p := p) (v := v) (d := d) (s := s) (k := t.n) (r := 0) (i := i) (fun j _ h2 => hn j (by omega)) hi (by rwa [Nat.zero_add])
  unfold fnd
  rw [this, Nat.zero_add]
theorem fnd_no {t : Sv} {p v : Int} {d s : Mc} (hn : ∀ j, j < t.n → ¬ hits t.c p v d s j) : fnd t p v d s = -1 := by
  unfold fnd
  rw [fndO_no fun j _ h2 => hn j (by omega)]
theorem fnd_cases (t : Sv) (p v : Int) (d s : Mc) : (fnd t p v d s = -1 ∧ ∀ j, j < t.n → ¬ hits t.c p v d s j) ∨ ∃ i : Nat, fnd t p v d s = i ∧ i < t.n ∧ hits t.c p v d s i ∧ ∀ j, j < i → ¬ hits t.c p v d s j := by
  have key : ∀ k, (∀ j, j < k → ¬ hits t.c p v d s j) ∨ ∃ i : Nat, i < k ∧ hits t.c p v d s i ∧ ∀ j, j < i → ¬ hits t.c p v d s j := by
    intro k
    induction k with
    | zero => exact .inl fun j hj => absurd hj (Nat.not_lt_zero _)
    | succ k ih =>
      rcases ih with h | ⟨i, h1, h2, h3⟩
      · by_cases hk : hits t.c p v d s k
        · exact .inr ⟨k, Nat.lt_succ_self _, hk, h⟩
        · refine .inl fun j hj => ?_
          rcases (by omega : j < k ∨ j = k) with h4 | rfl
          · exact h j h4
          · exact hk
      · exact .inr ⟨i, by omega, h2, h3⟩
  rcases key t.n with h | ⟨i, h1, h2, h3⟩
  · exact .inl ⟨fnd_no h, h⟩
  · exact .inr ⟨i, fnd_at h3 h1 h2, h1, h2, h3⟩
abbrev laFd (t : Sv) (p v : Int) (d s : Mc) : LA where
  ι := Nat
  inv := fun i => i ≤ t.n ∧ ∀ j, j < i → ¬ hits t.c p v d s j
  T := fun i => ⟨53, [(1, int_ .i64 p), (2, int_ .i64 v), (8, .one (.a (.ptr 4 0))), (9, .one (.a (.ptr 5 0))), (10, int_ .i64 0), (19, .one (.a (.slc 1 14 0 t.n t.cap))), (20, int_ .i64 t.n), (21, int_ .i64 i)], svMem t ++ [some ⟨true, .flat (mcL d)⟩, some ⟨true, .flat (mcL s)⟩]⟩
  μ := fun i => t.n - i
  ren := fun S => [0, 1, 2, 3, S.ix 8, S.ix 9]
noncomputable def cxFd (t : Sv) (p v : Int) (d s : Mc) : Cx Try.prog := { ps := [], es := [], is := [], n0 := 1, loops := fun i => match i with | 4 => some (.inv (laFd t p v d s)) | _ => none, cuts := fun _ => none }
def svRen : List Nat := [0, 1, 2, 3]
section
attribute [local irreducible] anyO enter
set_option maxHeartbeats 8000000 in
theorem fd_runs (t : Sv) (y : Int × Int × Mc × Mc) (hi : SvInv t) : Runs (cxFd t y.1 y.2.1 y.2.2.1 y.2.2.2) Try.f10 (.one (.a (.ptr 0 0)) :: [int_ .i64 y.1, int_ .i64 y.2.1, mcC y.2.2.1, mcC y.2.2.2]) (svMem t) fun v m => ghosted (fun _ _ => []) v m fun v m => anyO svK svRen v m [.one (int_ .i64 (fnd t y.1 y.2.1 y.2.2.1 y.2.2.2)) (svP t)] := by
  obtain ⟨p, v, d, s⟩ := y
  have hcap := hi.cap
  dsimp only
  repeat' (first | with_reducible exact trivial | with_reducible exact rfl | with_reducible exact Nat.le_refl _ | with_reducible exact (fun _ _ => rfl) | ((conv => whnf); first | (refine fun (x : Nat) => ?_) | (exact fun h => absurd h (by decide)) | (intro h9; (have h8 := of_decide_eq_true (p := type_of% h9) (by decide)); clear h8 h9) | (refine fun _ => ?_) | refine ⟨?_, ?_⟩ | exact trivial | exact Nat.le_refl _ | exact lex_q (by kernel_rfl) | exact lex_t (by kernel_rfl) | exact lex_h (by kernel_rfl) | fail))
  all_goals (try dsimp only at *)
  all_goals (try exact eq23)
  all_goals (try (have hx := (by assumption : x ≤ t.n ∧ ∀ (j : Nat), j < x → ¬hits t.c p v d s j); have hx0 : 0 + Int.toNat (x : Int) = x := (by omega)))
  all_goals (try omega)
  · (conv => whnf); refine enter_mk (la := laFd t p v d s) 0 ?_ (by (repeat' (first | ((conv => whnf); first | refine ⟨?_, ?_⟩ | exact trivial | fail) | (dsimp only; done) | ((try dsimp only); first | with_reducible exact rfl | exact Nat.le_refl _ | with_reducible exact (fun _ _ => rfl)))); all_goals ((first | rfl | exact fun _ _ => rfl | decide)))
    exact ⟨Nat.zero_le _, fun j hj => absurd hj (Nat.not_lt_zero _)⟩
  all_goals (try (have hx1 : x < t.n := (by omega)))
  · have hh : hits t.c p v d s (0 + Int.toNat x) := by unfold hits eqM mcAt; simp_all
    rw [hx0] at hh
    rw [fnd_at hx.2 hx1 hh]
    (conv => whnf); refine o_one () (by (repeat' (first | ((conv => whnf); first | refine ⟨?_, ?_⟩ | exact trivial | fail) | (dsimp only; done) | ((try dsimp only); first | with_reducible exact rfl | exact Nat.le_refl _ | with_reducible exact (fun _ _ => rfl)))); all_goals ((first | rfl | exact fun _ _ => rfl))) ?_; exact hi
  · have hh : ¬ hits t.c p v d s (0 + Int.toNat x) := by unfold hits eqM mcAt; simp_all; try (intro h9; omega)
    rw [hx0] at hh
    (conv => whnf); refine enter_mk (la := laFd t p v d s) (x + 1) ?_ (by (repeat' (first | ((conv => whnf); first | refine ⟨?_, ?_⟩ | exact trivial | fail) | (dsimp only; done) | ((try dsimp only); first | with_reducible exact rfl | exact Nat.le_refl _ | with_reducible exact (fun _ _ => rfl)))); all_goals ((first | rfl | exact fun _ _ => rfl | (show t.n - (x + 1) < t.n - x; omega) | (dsimp only; rw [w64' (by omega) (by omega)]; omega))))
    exact ⟨by show x + 1 ≤ t.n; omega, fun j hj => by
      rcases (by have hj : j < x + 1 := hj; omega : j < x ∨ j = x) with h9 | rfl
      · exact hx.2 j h9
      · exact hh⟩
  · have hh : ¬ hits t.c p v d s (0 + Int.toNat x) := by unfold hits eqM mcAt; simp_all; try (intro h9; omega)
    rw [hx0] at hh
    (conv => whnf); refine enter_mk (la := laFd t p v d s) (x + 1) ?_ (by (repeat' (first | ((conv => whnf); first | refine ⟨?_, ?_⟩ | exact trivial | fail) | (dsimp only; done) | ((try dsimp only); first | with_reducible exact rfl | exact Nat.le_refl _ | with_reducible exact (fun _ _ => rfl)))); all_goals ((first | rfl | exact fun _ _ => rfl | (show t.n - (x + 1) < t.n - x; omega) | (dsimp only; rw [w64' (by omega) (by omega)]; omega))))
    exact ⟨by show x + 1 ≤ t.n; omega, fun j hj => by
      rcases (by have hj : j < x + 1 := hj; omega : j < x ∨ j = x) with h9 | rfl
      · exact hx.2 j h9
      · exact hh⟩
  · have hh : hits t.c p v d s (0 + Int.toNat x) := by unfold hits eqM mcAt; simp_all
    rw [hx0] at hh
    rw [fnd_at hx.2 hx1 hh]
    (conv => whnf); refine o_one () (by (repeat' (first | ((conv => whnf); first | refine ⟨?_, ?_⟩ | exact trivial | fail) | (dsimp only; done) | ((try dsimp only); first | with_reducible exact rfl | exact Nat.le_refl _ | with_reducible exact (fun _ _ => rfl)))); all_goals ((first | rfl | exact fun _ _ => rfl))) ?_; exact hi
  · have hh : ¬ hits t.c p v d s (0 + Int.toNat x) := by unfold hits eqM mcAt; simp_all; try (intro h9; omega)
    rw [hx0] at hh
    (conv => whnf); refine enter_mk (la := laFd t p v d s) (x + 1) ?_ (by (repeat' (first | ((conv => whnf); first | refine ⟨?_, ?_⟩ | exact trivial | fail) | (dsimp only; done) | ((try dsimp only); first | with_reducible exact rfl | exact Nat.le_refl _ | with_reducible exact (fun _ _ => rfl)))); all_goals ((first | rfl | exact fun _ _ => rfl | (show t.n - (x + 1) < t.n - x; omega) | (dsimp only; rw [w64' (by omega) (by omega)]; omega))))
    exact ⟨by show x + 1 ≤ t.n; omega, fun j hj => by
      rcases (by have hj : j < x + 1 := hj; omega : j < x ∨ j = x) with h9 | rfl
      · exact hx.2 j h9
      · exact hh⟩
  · have hh : ¬ hits t.c p v d s (0 + Int.toNat x) := by unfold hits eqM mcAt; simp_all; try (intro h9; omega)
    rw [hx0] at hh
    (conv => whnf); refine enter_mk (la := laFd t p v d s) (x + 1) ?_ (by (repeat' (first | ((conv => whnf); first | refine ⟨?_, ?_⟩ | exact trivial | fail) | (dsimp only; done) | ((try dsimp only); first | with_reducible exact rfl | exact Nat.le_refl _ | with_reducible exact (fun _ _ => rfl)))); all_goals ((first | rfl | exact fun _ _ => rfl | (show t.n - (x + 1) < t.n - x; omega) | (dsimp only; rw [w64' (by omega) (by omega)]; omega))))
    exact ⟨by show x + 1 ≤ t.n; omega, fun j hj => by
      rcases (by have hj : j < x + 1 := hj; omega : j < x ∨ j = x) with h9 | rfl
      · exact hx.2 j h9
      · exact hh⟩
  · have hh : ¬ hits t.c p v d s (0 + Int.toNat x) := by unfold hits eqM mcAt; simp_all; try (intro h9; omega)
    rw [hx0] at hh
    (conv => whnf); refine enter_mk (la := laFd t p v d s) (x + 1) ?_ (by (repeat' (first | ((conv => whnf); first | refine ⟨?_, ?_⟩ | exact trivial | fail) | (dsimp only; done) | ((try dsimp only); first | with_reducible exact rfl | exact Nat.le_refl _ | with_reducible exact (fun _ _ => rfl)))); all_goals ((first | rfl | exact fun _ _ => rfl | (show t.n - (x + 1) < t.n - x; omega) | (dsimp only; rw [w64' (by omega) (by omega)]; omega))))
    exact ⟨by show x + 1 ≤ t.n; omega, fun j hj => by
      rcases (by have hj : j < x + 1 := hj; omega : j < x ∨ j = x) with h9 | rfl
      · exact hx.2 j h9
      · exact hh⟩
  · have hh : hits t.c p v d s (0 + Int.toNat x) := by unfold hits eqM mcAt; simp_all
    rw [hx0] at hh
    rw [fnd_at hx.2 hx1 hh]
    (conv => whnf); refine o_one () (by (repeat' (first | ((conv => whnf); first | refine ⟨?_, ?_⟩ | exact trivial | fail) | (dsimp only; done) | ((try dsimp only); first | with_reducible exact rfl | exact Nat.le_refl _ | with_reducible exact (fun _ _ => rfl)))); all_goals ((first | rfl | exact fun _ _ => rfl))) ?_; exact hi
  · have hh : ¬ hits t.c p v d s (0 + Int.toNat x) := by unfold hits eqM mcAt; simp_all; try (intro h9; omega)
    rw [hx0] at hh
    (conv => whnf); refine enter_mk (la := laFd t p v d s) (x + 1) ?_ (by (repeat' (first | ((conv => whnf); first | refine ⟨?_, ?_⟩ | exact trivial | fail) | (dsimp only; done) | ((try dsimp only); first | with_reducible exact rfl | exact Nat.le_refl _ | with_reducible exact (fun _ _ => rfl)))); all_goals ((first | rfl | exact fun _ _ => rfl | (show t.n - (x + 1) < t.n - x; omega) | (dsimp only; rw [w64' (by omega) (by omega)]; omega))))
    exact ⟨by show x + 1 ≤ t.n; omega, fun j hj => by
      rcases (by have hj : j < x + 1 := hj; omega : j < x ∨ j = x) with h9 | rfl
      · exact hx.2 j h9
      · exact hh⟩
  · have hh : ¬ hits t.c p v d s (0 + Int.toNat x) := by unfold hits eqM mcAt; simp_all; try (intro h9; omega)
    rw [hx0] at hh
    (conv => whnf); refine enter_mk (la := laFd t p v d s) (x + 1) ?_ (by (repeat' (first | ((conv => whnf); first | refine ⟨?_, ?_⟩ | exact trivial | fail) | (dsimp only; done) | ((try dsimp only); first | with_reducible exact rfl | exact Nat.le_refl _ | with_reducible exact (fun _ _ => rfl)))); all_goals ((first | rfl | exact fun _ _ => rfl | (show t.n - (x + 1) < t.n - x; omega) | (dsimp only; rw [w64' (by omega) (by omega)]; omega))))
    exact ⟨by show x + 1 ≤ t.n; omega, fun j hj => by
      rcases (by have hj : j < x + 1 := hj; omega : j < x ∨ j = x) with h9 | rfl
      · exact hx.2 j h9
      · exact hh⟩
  · have hh : hits t.c p v d s (0 + Int.toNat x) := by unfold hits eqM mcAt; simp_all
    rw [hx0] at hh
    rw [fnd_at hx.2 hx1 hh]
    (conv => whnf); refine o_one () (by (repeat' (first | ((conv => whnf); first | refine ⟨?_, ?_⟩ | exact trivial | fail) | (dsimp only; done) | ((try dsimp only); first | with_reducible exact rfl | exact Nat.le_refl _ | with_reducible exact (fun _ _ => rfl)))); all_goals ((first | rfl | exact fun _ _ => rfl))) ?_; exact hi
  · have hh : ¬ hits t.c p v d s (0 + Int.toNat x) := by unfold hits eqM mcAt; simp_all; try (intro h9; omega)
    rw [hx0] at hh
    (conv => whnf); refine enter_mk (la := laFd t p v d s) (x + 1) ?_ (by (repeat' (first | ((conv => whnf); first | refine ⟨?_, ?_⟩ | exact trivial | fail) | (dsimp only; done) | ((try dsimp only); first | with_reducible exact rfl | exact Nat.le_refl _ | with_reducible exact (fun _ _ => rfl)))); all_goals ((first | rfl | exact fun _ _ => rfl | (show t.n - (x + 1) < t.n - x; omega) | (dsimp only; rw [w64' (by omega) (by omega)]; omega))))
    exact ⟨by show x + 1 ≤ t.n; omega, fun j hj => by
      rcases (by have hj : j < x + 1 := hj; omega : j < x ∨ j = x) with h9 | rfl
      · exact hx.2 j h9
      · exact hh⟩
  · have hh : ¬ hits t.c p v d s (0 + Int.toNat x) := by unfold hits eqM mcAt; simp_all; try (intro h9; omega)
    rw [hx0] at hh
    (conv => whnf); refine enter_mk (la := laFd t p v d s) (x + 1) ?_ (by (repeat' (first | ((conv => whnf); first | refine ⟨?_, ?_⟩ | exact trivial | fail) | (dsimp only; done) | ((try dsimp only); first | with_reducible exact rfl | exact Nat.le_refl _ | with_reducible exact (fun _ _ => rfl)))); all_goals ((first | rfl | exact fun _ _ => rfl | (show t.n - (x + 1) < t.n - x; omega) | (dsimp only; rw [w64' (by omega) (by omega)]; omega))))
    exact ⟨by show x + 1 ≤ t.n; omega, fun j hj => by
      rcases (by have hj : j < x + 1 := hj; omega : j < x ∨ j = x) with h9 | rfl
      · exact hx.2 j h9
      · exact hh⟩
  · have hh : ¬ hits t.c p v d s (0 + Int.toNat x) := by unfold hits eqM mcAt; simp_all; try (intro h9; omega)
    rw [hx0] at hh
    (conv => whnf); refine enter_mk (la := laFd t p v d s) (x + 1) ?_ (by (repeat' (first | ((conv => whnf); first | refine ⟨?_, ?_⟩ | exact trivial | fail) | (dsimp only; done) | ((try dsimp only); first | with_reducible exact rfl | exact Nat.le_refl _ | with_reducible exact (fun _ _ => rfl)))); all_goals ((first | rfl | exact fun _ _ => rfl | (show t.n - (x + 1) < t.n - x; omega) | (dsimp only; rw [w64' (by omega) (by omega)]; omega))))
    exact ⟨by show x + 1 ≤ t.n; omega, fun j hj => by
      rcases (by have hj : j < x + 1 := hj; omega : j < x ∨ j = x) with h9 | rfl
      · exact hx.2 j h9
      · exact hh⟩
  · rw [fnd_no (t := t) (p := p) (v := v) (d := d) (s := s) (fun j hj => hx.2 j (by omega))]
    (conv => whnf); refine o_one () (by (repeat' (first | ((conv => whnf); first | refine ⟨?_, ?_⟩ | exact trivial | fail) | (dsimp only; done) | ((try dsimp only); first | with_reducible exact rfl | exact Nat.le_refl _ | with_reducible exact (fun _ _ => rfl)))); all_goals ((first | rfl | exact fun _ _ => rfl))) ?_; exact hi
end
/-- the arguments of Find -/
def Sig.fd : Sig (Int × Int × Mc × Mc) := .s4 (.int .i64) (.int .i64) Lens.mc Lens.mc
noncomputable def fdS : PSpec Try.prog := obP fn10 56 svK Sig.fd svR svP svR_ok (fun _ => rfl) (fun t y _ => cxFd t y.1 y.2.1 y.2.2.1 y.2.2.2) (fun _ _ => True) (fun t y => int_ .i64 (fnd t y.1 y.2.1 y.2.2.1 y.2.2.2)) (fun _ _ => []) (fun _ _ => svRen) (fun _ _ _ => rfl) (fun t y _ _ hi => fd_runs t y hi)

end Go.Proofs.Ytmhggafgdilgeaa
