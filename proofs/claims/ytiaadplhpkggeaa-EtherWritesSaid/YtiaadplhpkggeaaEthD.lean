/-
  Contracts of functions, and plain facts about them, that a claim of this seat uses.
-/
import Derived.Test.YtiaadplhpkggeaaSx
import Derived.Test.YtiaadplhpkggeaaFcsNum
import Derived.Test.YtiaadplhpkggeaaFcsBits
import Derived.Test.YtiaadplhpkggeaaFcsA
import Derived.Test.YtiaadplhpkggeaaFcsB
import Derived.Test.YtiaadplhpkggeaaFcsIn
import Derived.Test.YtiaadplhpkggeaaFcsC
import Derived.Test.YtiaadplhpkggeaaFcsJ
import Derived.Test.YtiaadplhpkggeaaFcsH
import Derived.Test.YtiaadplhpkggeaaEthNum
import Derived.Test.YtiaadplhpkggeaaEthA
import Derived.Test.YtiaadplhpkggeaaEthB
import Derived.Test.YtiaadplhpkggeaaProg
namespace Go.Proofs.Ytiaadplhpkggeaa
open Go.Sx
set_option linter.unusedVariables false
set_option linter.unusedSimpArgs false
set_option maxRecDepth 100000

/-! frames: Decode. -/
theorem fn34 : FnOf Try.prog 34 Try.f34 := ⟨Try.func34, rfl, rfl, mixed⟩
theorem fn42 : FnOf Try.prog 42 Try.f42 := ⟨Try.func42, rfl, rfl, mixed⟩
def w16 (g : Nat → Int) (i : Nat) : Int := g i * 256 + g (i + 1)
def dT (g : Nat → Int) : Bool := decide (w16 g 12 = 33024)
def o1 (g : Nat → Int) : Nat := if dT g = true then 16 else 12
def dM (g : Nat → Int) : Bool := decide (w16 g (o1 g) = 61889)
def o2 (g : Nat → Int) : Nat := if dM g = true then o1 g + 6 else o1 g
def dV (g : Nat → Int) : Int := if dT g = true then w16 g 14 % 4096 else 0
def dP (g : Nat → Int) : Int := if dT g = true then w16 g 14 / 8192 else 0
def dD (g : Nat → Int) : Bool := if dT g = true then decide (w16 g 14 / 4096 % 2 = 1) else false
def dS (g : Nat → Int) : Int := if dM g = true then w16 g (o1 g + 4) else 0
def dn (g : Nat → Int) : Nat := (w16 g (o2 g + 2)).toNat
def dG (g : Nat → Int) (r : Nat) : Int := g (o2 g + 4 + r)
def frD (g : Nat → Int) (d : IS) : Fr := ⟨g 0, g 1, g 2, g 3, g 4, g 5, g 6, g 7, g 8, g 9, g 10, g 11, dT g, dV g, dP g, dD g, dM g, dS g, w16 g (o2 g), d⟩
def d0 (n : Nat) : IS := ⟨n, 0, 0, fun _ => 0⟩
structure DOk (g : Nat → Int) (len : Nat) : Prop where
  z : dM g = true → w16 g (o1 g + 2) = 0
  n : o2 g + 4 + dn g ≤ len - 4
  c : chk (frD g (d0 (dn g))) = 0
  s : (len : Int) = max 64 (siz (frD g (d0 (dn g))))
  f : ∀ r, o2 g + 4 + dn g ≤ r → r < len - 4 → g r = 0
noncomputable instance (g : Nat → Int) (len : Nat) : Decidable (DOk g len) := Classical.propDecidable _
noncomputable def derr (a : IS) : Int := if a.len < 64 then 20 else if 1600 < a.len then 3 else if ¬ opB a.g a.len then 22 else if DOk a.g a.len then 0 else 21
theorem derr_20 {a : IS} (h : a.len < 64) : derr a = 20 := if_pos h
theorem derr_3 {a : IS} (h : ¬ a.len < 64) (h2 : 1600 < a.len) : derr a = 3 := by unfold derr; rw [if_neg h, if_pos h2]
theorem derr_22 {a : IS} (h : ¬ a.len < 64) (h2 : ¬ 1600 < a.len) (h3 : ¬ opB a.g a.len) : derr a = 22 := by unfold derr; rw [if_neg h, if_neg h2, if_pos h3]
theorem derr_21 {a : IS} (h : ¬ a.len < 64) (h2 : ¬ 1600 < a.len) (h3 : opB a.g a.len) (h4 : ¬ DOk a.g a.len) : derr a = 21 := by unfold derr; rw [if_neg h, if_neg h2, if_neg (fun h5 => h5 h3), if_neg h4]
theorem derr_0 {a : IS} (h : ¬ a.len < 64) (h2 : ¬ 1600 < a.len) (h3 : opB a.g a.len) (h4 : DOk a.g a.len) : derr a = 0 := by unfold derr; rw [if_neg h, if_neg h2, if_neg (fun h5 => h5 h3), if_pos h4]
theorem o1_c (g : Nat → Int) : (dT g = true ∧ o1 g = 16) ∨ (dT g = false ∧ o1 g = 12) := by
  unfold o1
  cases dT g <;> simp
theorem o2_c (g : Nat → Int) : (dM g = true ∧ o2 g = o1 g + 6) ∨ (dM g = false ∧ o2 g = o1 g) := by
  unfold o2
  cases dM g <;> simp
theorem w16_bd {g : Nat → Int} {n i : Nat} (h : Bytes g n) (hi : i + 1 < n) : 0 ≤ w16 g i ∧ w16 g i < 65536 := by
  have h1 := h i (by omega)
  have h2 := h (i + 1) hi
  unfold w16; omega
theorem or_at {g : Nat → Int} {n : Nat} (h : Bytes g n) (i : Nat) (hi : i + 1 < n) : bits .or .i64 (g i * 256) (g (i + 1)) = w16 g i := by
  have h1 := h i (by omega)
  have h2 := h (i + 1) hi
  exact or_word h1 h2
theorem wr_at {g : Nat → Int} {n : Nat} (h : Bytes g n) (r : Nat) (hr : r < n) : IntKind.i64.wrap (g r) = g r := by
  have := h r hr
  exact w64' (by omega) (by omega)
theorem ws_at {g : Nat → Int} {n : Nat} (h : Bytes g n) (r : Nat) (hr : r < n) : IntKind.i64.wrap (g r * 256) = g r * 256 := by
  have := h r hr
  exact w64' (by omega) (by omega)
theorem cutR_s {ln : Int} {cap l r : Nat} (h : cap ≠ l) : cutR (some ln) cap l r = r + l := if_neg h
theorem cutL_n {h l : Nat} : cutL none h l = h := rfl
theorem cutR_n {cap l r : Nat} : cutR none cap l r = r := rfl
theorem cutL_s {ln : Int} {h l : Nat} : cutL (some ln) h l = h - l := rfl
theorem dT_t {g : Nat → Int} (h : dT g = true) : o1 g = 16 ∧ dV g = w16 g 14 % 4096 ∧ dP g = w16 g 14 / 8192 ∧ dD g = decide (w16 g 14 / 4096 % 2 = 1) := by
  unfold o1 dV dP dD
  rw [h]; exact ⟨rfl, rfl, rfl, rfl⟩
theorem dT_f {g : Nat → Int} (h : dT g = false) : o1 g = 12 ∧ dV g = 0 ∧ dP g = 0 ∧ dD g = false := by
  unfold o1 dV dP dD
  rw [h]; exact ⟨rfl, rfl, rfl, rfl⟩
theorem dM_t {g : Nat → Int} (h : dM g = true) : o2 g = o1 g + 6 ∧ dS g = w16 g (o1 g + 4) := by
  unfold o2 dS
  rw [h]; exact ⟨rfl, rfl⟩
theorem dM_f {g : Nat → Int} (h : dM g = false) : o2 g = o1 g ∧ dS g = 0 := by
  unfold o2 dS
  rw [h]; exact ⟨rfl, rfl⟩
def zC (d : SA) : List SA := [u8_ 0, u8_ 0, u8_ 0, u8_ 0, u8_ 0, u8_ 0, u8_ 0, u8_ 0, u8_ 0, u8_ 0, u8_ 0, u8_ 0, .ff, i_ 0, i_ 0, .ff, .ff, i_ 0, i_ 0, d]
def nilA : SA := .v (.slice none 0 0)
def tabY (c : Nat) (g : Nat → Int) : Option Reg := some ⟨true, .tab c [.int .u8 g]⟩
def flatR (l : List SA) : Option Reg := some ⟨true, .flat l⟩
def ixc (S : St) (k j : Nat) : Nat := match S.m[S.ix k]? with | some (some ⟨_, .flat l⟩) => (match l[j]? with | some a => a.ix | none => 0) | _ => 0
structure LenOk (a : IS) : Prop where
  l : 64 ≤ a.len ∧ a.len ≤ 1600
  o : opB a.g a.len
def fr18 (g : Nat → Int) : Fr := ⟨g 0, g 1, g 2, g 3, g 4, g 5, g 6, g 7, g 8, g 9, g 10, g 11, dT g, dV g, dP g, dD g, false, 0, w16 g (o1 g), d0 0⟩
abbrev laA (a : IS) : LA where
  ι := Nat × (Nat → Int)
  inv := fun y => LenOk a ∧ CB (a.len - 4) a.g ⟨y.1, y.2⟩
  T := fun y => ⟨118, [(0, .one (.a (.slc 2 1 0 (a.len - 4) y.1))), (2, .one (.a (.ptr 1 0))), (5, .one (.a (.ptr 3 0))), (6, .one (.a (.ptr 4 0))), (7, .one (.a (.clo 42 [(4, 0)])))], [roB a, flatR (zC nilA), tabY y.1 y.2, flatR (frCells (fr18 a.g) nilA), flatR [.slc 2 1 (o1 a.g + 2) (a.len - 4 - (o1 a.g + 2)) (y.1 - (o1 a.g + 2))]]⟩
  μ := fun _ => 0
  ren := fun S => [0, S.ix 2, S.ix 0, S.ix 5, S.ix 6]
abbrev laB (a : IS) : LA where
  ι := Nat × (Nat → Int)
  inv := fun y => LenOk a ∧ CB (a.len - 4) a.g ⟨y.1, y.2⟩ ∧ (dM a.g = true → w16 a.g (o1 a.g + 2) = 0)
  T := fun y => ⟨118, [(0, .one (.a (.slc 2 1 0 (a.len - 4) y.1))), (2, .one (.a (.ptr 1 0))), (5, .one (.a (.ptr 3 0))), (6, .one (.a (.ptr 4 0))), (7, .one (.a (.clo 42 [(4, 0)])))], [roB a, flatR (zC nilA), tabY y.1 y.2, flatR (frCells (frD a.g (d0 0)) nilA), flatR [.slc 2 1 (o2 a.g + 2) (a.len - 4 - (o2 a.g + 2)) (y.1 - (o2 a.g + 2))]]⟩
  μ := fun _ => 0
  ren := fun S => [0, S.ix 2, S.ix 0, S.ix 5, S.ix 6]
abbrev laC (a : IS) : LA where
  ι := Int × Nat × (Nat → Int) × Nat × (Nat → Int)
  inv := fun y => (0 ≤ y.1 ∧ y.1 ≤ ((a.len - 4 - (o2 a.g + 4) - dn a.g : Nat) : Int)) ∧ LenOk a ∧ CB (a.len - 4) a.g ⟨y.2.1, y.2.2.1⟩ ∧ CB (dn a.g) (dG a.g) ⟨y.2.2.2.1, y.2.2.2.2⟩ ∧ (dM a.g = true → w16 a.g (o1 a.g + 2) = 0) ∧ o2 a.g + 4 + dn a.g ≤ a.len - 4 ∧ chk (frD a.g (d0 (dn a.g))) = 0 ∧ (a.len : Int) = max 64 (siz (frD a.g (d0 (dn a.g)))) ∧ ∀ r, o2 a.g + 4 + dn a.g ≤ r → r < o2 a.g + 4 + dn a.g + y.1.toNat → a.g r = 0
  T := fun y => ⟨118, [(2, .one (.a (.ptr 1 0))), (5, .one (.a (.ptr 3 0))), (107, .one (.a (.slc 2 1 (cutR (some (dn a.g : Int)) (y.2.1 - (o2 a.g + 4)) (dn a.g) (o2 a.g + 4)) (a.len - 4 - (o2 a.g + 4) - dn a.g) (y.2.1 - (o2 a.g + 4) - dn a.g)))), (108, int_ .i64 ((a.len - 4 - (o2 a.g + 4) - dn a.g : Nat) : Int)), (109, int_ .i64 y.1)], [roB a, flatR (zC nilA), tabY y.2.1 y.2.2.1, flatR (frCells (frD a.g (d0 0)) (.slc 4 1 0 (dn a.g) y.2.2.2.1)), tabY y.2.2.2.1 y.2.2.2.2]⟩
  μ := fun y => (((a.len - 4 - (o2 a.g + 4) - dn a.g : Nat) : Int) - y.1).toNat
  ren := fun S => [0, S.ix 2, S.ix 107, S.ix 5, ixc S 5 19]
theorem chk_d {g : Nat → Int} {d : IS} {n : Nat} (h : d.len = n) : chk (frD g d) = chk (frD g (d0 n)) := by subst h; rfl
theorem siz_d {g : Nat → Int} {d : IS} {n : Nat} (h : d.len = n) : siz (frD g d) = siz (frD g (d0 n)) := by subst h; rfl
theorem chk_e (g : Nat → Int) (c N : Nat) (x : Nat → Int) : chk ⟨(frD g (d0 0)).a0, (frD g (d0 0)).a1, (frD g (d0 0)).a2, (frD g (d0 0)).a3, (frD g (d0 0)).a4, (frD g (d0 0)).a5, (frD g (d0 0)).b0, (frD g (d0 0)).b1, (frD g (d0 0)).b2, (frD g (d0 0)).b3, (frD g (d0 0)).b4, (frD g (d0 0)).b5, (frD g (d0 0)).tg, (frD g (d0 0)).vid, (frD g (d0 0)).prio, (frD g (d0 0)).drop, (frD g (d0 0)).many, (frD g (d0 0)).seq, (frD g (d0 0)).typ, ⟨(w16 g (o2 g + 2)).toNat, c, N, x⟩⟩ = chk (frD g (d0 (dn g))) := rfl
theorem siz_e (g : Nat → Int) (c N : Nat) (x : Nat → Int) : siz ⟨(frD g (d0 0)).a0, (frD g (d0 0)).a1, (frD g (d0 0)).a2, (frD g (d0 0)).a3, (frD g (d0 0)).a4, (frD g (d0 0)).a5, (frD g (d0 0)).b0, (frD g (d0 0)).b1, (frD g (d0 0)).b2, (frD g (d0 0)).b3, (frD g (d0 0)).b4, (frD g (d0 0)).b5, (frD g (d0 0)).tg, (frD g (d0 0)).vid, (frD g (d0 0)).prio, (frD g (d0 0)).drop, (frD g (d0 0)).many, (frD g (d0 0)).seq, (frD g (d0 0)).typ, ⟨(w16 g (o2 g + 2)).toNat, c, N, x⟩⟩ = siz (frD g (d0 (dn g))) := rfl
theorem yes_p {p : Prop} [Decidable p] (h : p) : decide p = true := decide_eq_true h
noncomputable def cxNext : Cx Try.prog := { ps := [], es := [], is := [], n0 := 0, loops := fun _ => none, cuts := fun _ => none }
noncomputable def cxDec (a : IS) : Cx Try.prog := { ps := [chkS, sizS], es := [openS], is := [inl fn42 cxNext], n0 := 1, loops := fun i => (match i with | 31 => some (.inv (laC a)) | _ => none), cuts := fun i => (match i with | 18 => some (laA a) | 23 => some (laB a) | _ => none) }
noncomputable def decAlts (a : IS) : List Alt := [.cond (derr a ≠ 0) (.tup [.agg (zC nilA), .a (i_ (derr a))]) [roB a], .fam CG (fun y => derr a = 0 ∧ CB (dn a.g) (dG a.g) y) (fun y => .tup [.agg (frCells (frD a.g (d0 0)) (.slc 1 1 0 (dn a.g) y.cap)), .a (i_ 0)]) (fun y => [roB a, rwB y])]
def dRen (v : SV) : List Nat := match v with
  | .tup (.agg l :: _) => (match l[19]? with | some x => (match x.ix with | 0 => [0] | i => [0, i]) | none => [0])
  | _ => [0]
theorem dec_no {a : IS} {m : Mem} {e : Int} (hp : derr a ≠ 0) (h : altOne [roB a] [0] (.tup [.agg (zC nilA), .a (.v (.int .i64 e))]) m (.tup [.agg (zC nilA), .a (i_ (derr a))]) [roB a]) : anyAlt [roB a] (dRen (.tup [.agg (zC nilA), .a (.v (.int .i64 e))])) (.tup [.agg (zC nilA), .a (.v (.int .i64 e))]) m (decAlts a) := alt_l hp h
section
attribute [local irreducible] Bw Lex HeldOK enter anyAlt
set_option maxHeartbeats 8000000 in
theorem dec_runs (a : IS) (hp : obp (some (Bw a ∧ a.len ≤ 100000))) : Runs (cxDec a) Try.f34 [D1 0 a] [roB a] fun v m => anyAlt [roB a] (dRen v) v m (decAlts a) := by
  obtain ⟨hw, hs⟩ : Bw a ∧ a.len ≤ 100000 := hp
  have hww := hw.out
  have hb : Bytes a.g a.len := hww.1
  have hor := or_at hb
  have hwr := wr_at hb
  have hws := ws_at hb
  have ho1 := o1_c a.g
  have ho2 := o2_c a.g
  have hdn : dn a.g = (w16 a.g (o2 a.g + 2)).toNat := rfl
  repeat' (first | with_reducible exact trivial | with_reducible exact rfl | with_reducible exact Nat.le_refl _ | with_reducible exact (fun _ _ => rfl) | ((conv => whnf); first | (refine fun (x : CG) => ?_) | (refine fun (y : Nat × (Nat → Int)) => ?_) | (refine fun (z : Int × Nat × (Nat → Int) × Nat × (Nat → Int)) => ?_) | (refine fun _ => ?_) | refine ⟨?_, ?_⟩ | exact trivial | exact Nat.le_refl _ | exact lex_q (by kernel_rfl) | exact lex_t (by kernel_rfl) | exact lex_h (by kernel_rfl) | fail))
  all_goals (try (have hx := (by assumption : opB a.g a.len ∧ CB (a.len - 4) a.g x); have hxl := hx.2.len; have hcx : ∀ r, r < a.len - 4 → x.g r = a.g r := hx.2.2.2))
  all_goals (try (have hA := (by assumption : (laA a).inv y); dsimp only [laA] at hA; have hxl := hA.2.len; have hAl := hA.1.l; have hcx : ∀ r, r < a.len - 4 → y.2 r = a.g r := hA.2.2.2))
  all_goals (try (have hB := (by assumption : (laB a).inv y); dsimp only [laB] at hB; have hxl := hB.2.1.len; have hBl := hB.1.l; have hn := w16_bd hb (i := o2 a.g + 2) (by omega); have hcx : ∀ r, r < a.len - 4 → y.2 r = a.g r := hB.2.1.2.2))
  all_goals (try (have hC := (by assumption : (laC a).inv z); dsimp only [laC] at hC; obtain ⟨z1, z2, z3, z4, z5, z6, z7, z8, z9⟩ := hC; have hzl := z3.len; have hcz : ∀ r, r < a.len - 4 → z.2.2.1 r = a.g r := z3.2.2))
  all_goals (try dsimp only [id] at *)
  all_goals (try simp (disch := omega) only [fdiv_nn, Int.reduceToNat, IntKind.bits, Nat.min_def, Nat.reduceLeDiff, if_true, if_false, Int.reducePow, wu8, wu32, w64', wu64', tdiv_pos, tmod_pos, Int.toNat_natCast, Nat.zero_add, chk_e, siz_e, hcx, hor, hwr, hws, cutR_s, cutL_s, cutR_n, cutL_n, Nat.add_zero, Nat.add_assoc, Nat.reduceAdd, Nat.sub_zero, and_1, and_4095] at *)
  all_goals (try omega)
  all_goals (try exact absurd (by assumption : (!true) = true) (by decide))
  all_goals (try exact absurd (by assumption : (!false) = false) (by decide))
  all_goals (try (show dn a.g ≤ 100000; unfold dn; omega))
  · have hd := derr_20 (a := a) (by omega)
    refine dec_no ?_ (by (repeat' (first | with_reducible exact rfl | exact Nat.le_refl _ | with_reducible exact (fun _ _ => rfl) | ((conv => whnf); first | refine ⟨?_, ?_⟩ | exact trivial | fail))); first | ((all_goals ((try dsimp only [id] at *); (all_goals (try simp (disch := omega) only [w64', wu64', tdiv_pos, tmod_pos, Int.toNat_natCast, Nat.zero_add] at *)); (all_goals ((exact hd))))); done) | fail)
    rw [hd]; decide
  · have hd := derr_3 (a := a) (by omega) (by omega)
    refine dec_no ?_ (by (repeat' (first | with_reducible exact rfl | exact Nat.le_refl _ | with_reducible exact (fun _ _ => rfl) | ((conv => whnf); first | refine ⟨?_, ?_⟩ | exact trivial | fail))); first | ((all_goals ((try dsimp only [id] at *); (all_goals (try simp (disch := omega) only [w64', wu64', tdiv_pos, tmod_pos, Int.toNat_natCast, Nat.zero_add] at *)); (all_goals ((exact hd))))); done) | fail)
    rw [hd]; decide
  · have hd := derr_22 (a := a) (by omega) (by omega) (by assumption)
    refine dec_no ?_ (by (repeat' (first | with_reducible exact rfl | exact Nat.le_refl _ | with_reducible exact (fun _ _ => rfl) | ((conv => whnf); first | refine ⟨?_, ?_⟩ | exact trivial | fail))); first | ((all_goals ((try dsimp only [id] at *); (all_goals (try simp (disch := omega) only [w64', wu64', tdiv_pos, tmod_pos, Int.toNat_natCast, Nat.zero_add] at *)); (all_goals ((exact hd))))); done) | fail)
    rw [hd]; decide
  · have e1 : dT a.g = true := yes_p (by assumption : w16 a.g 12 = 33024)
    obtain ⟨q1, q2, q3, q4⟩ := dT_t e1
    have q5 : w16 a.g (o1 a.g) = w16 a.g 16 := by rw [q1]
    have h14 := w16_bd hb (i := 14) (by omega)
    have hl1 : LenOk a := ⟨by omega, hx.1⟩
    refine enter_mk (la := laA a) (_, _) ?_ (by (repeat' (first | ((conv => whnf); first | refine ⟨?_, ?_⟩ | exact trivial | fail) | (dsimp only; done) | ((try dsimp only); first | with_reducible exact rfl | exact Nat.le_refl _ | with_reducible exact (fun _ _ => rfl)))); first | ((all_goals ((try dsimp only [laA] at *); (all_goals (try simp (disch := omega) only [w64', wu64', tdiv_pos, tmod_pos, Int.toNat_natCast, Nat.zero_add] at *)); (all_goals (((try dsimp only); (try simp (disch := omega) only [fdiv_nn, Int.reduceToNat, IntKind.bits, Nat.min_def, Nat.reduceLeDiff, if_true, if_false, Int.reducePow, wu8, wu32, w64', wu64', tdiv_pos, tmod_pos, Int.toNat_natCast, Nat.zero_add, chk_e, siz_e, hcx, hor, hwr, hws, cutR_s, cutL_s, cutR_n, cutL_n, Nat.add_zero, Nat.add_assoc, Nat.reduceAdd, Nat.sub_zero, and_1, and_4095]); (first | omega | rfl | exact e1 | exact q2 | exact q3 | exact q5 | (refine q4.trans (decide_eq_decide.2 ?_); simp (disch := omega) only [fdiv_nn, Int.reduceToNat, IntKind.bits, Nat.min_def, Nat.reduceLeDiff, if_true, if_false, Int.reducePow, wu8, wu32, w64', wu64', tdiv_pos, tmod_pos, Int.toNat_natCast, Nat.zero_add, chk_e, siz_e, hcx, hor, hwr, hws, cutR_s, cutL_s, cutR_n, cutL_n, Nat.add_zero, Nat.add_assoc, Nat.reduceAdd, Nat.sub_zero, and_1, and_4095]; done))))))); done) | fail)
    exact ⟨hl1, hx.2⟩
  · have e1 : dT a.g = false := decide_eq_false (by assumption : ¬ w16 a.g 12 = 33024)
    obtain ⟨q1, q2, q3, q4⟩ := dT_f e1
    have q5 : w16 a.g (o1 a.g) = w16 a.g 12 := by rw [q1]
    have hl1 : LenOk a := ⟨by omega, hx.1⟩
    refine enter_mk (la := laA a) (_, _) ?_ (by (repeat' (first | ((conv => whnf); first | refine ⟨?_, ?_⟩ | exact trivial | fail) | (dsimp only; done) | ((try dsimp only); first | with_reducible exact rfl | exact Nat.le_refl _ | with_reducible exact (fun _ _ => rfl)))); first | ((all_goals ((try dsimp only [laA] at *); (all_goals (try simp (disch := omega) only [w64', wu64', tdiv_pos, tmod_pos, Int.toNat_natCast, Nat.zero_add] at *)); (all_goals (((try dsimp only); (try simp (disch := omega) only [fdiv_nn, Int.reduceToNat, IntKind.bits, Nat.min_def, Nat.reduceLeDiff, if_true, if_false, Int.reducePow, wu8, wu32, w64', wu64', tdiv_pos, tmod_pos, Int.toNat_natCast, Nat.zero_add, chk_e, siz_e, hcx, hor, hwr, hws, cutR_s, cutL_s, cutR_n, cutL_n, Nat.add_zero, Nat.add_assoc, Nat.reduceAdd, Nat.sub_zero, and_1, and_4095]); (first | omega | rfl | exact e1 | exact q2 | exact q3 | exact q4 | exact q5)))))); done) | fail)
    exact ⟨hl1, hx.2⟩
  · have e1 : dM a.g = true := yes_p (by assumption : (fr18 a.g).typ = 61889)
    have hd := derr_21 (a := a) (by omega) (by omega) hA.1.o fun h => (by assumption : ¬ w16 a.g (o1 a.g + 2) = 0) (h.z e1)
    refine dec_no ?_ (by (repeat' (first | with_reducible exact rfl | exact Nat.le_refl _ | with_reducible exact (fun _ _ => rfl) | ((conv => whnf); first | refine ⟨?_, ?_⟩ | exact trivial | fail))); first | ((all_goals ((try dsimp only [id] at *); (all_goals (try simp (disch := omega) only [w64', wu64', tdiv_pos, tmod_pos, Int.toNat_natCast, Nat.zero_add] at *)); (all_goals ((exact hd))))); done) | fail)
    rw [hd]; decide
  · have e1 : dM a.g = true := yes_p (by assumption : (fr18 a.g).typ = 61889)
    obtain ⟨q1, q2⟩ := dM_t e1
    have q5 : w16 a.g (o2 a.g) = w16 a.g (o1 a.g + 6) := by rw [q1]
    refine enter_mk (la := laB a) (_, _) ?_ (by (repeat' (first | ((conv => whnf); first | refine ⟨?_, ?_⟩ | exact trivial | fail) | (dsimp only; done) | ((try dsimp only); first | with_reducible exact rfl | exact Nat.le_refl _ | with_reducible exact (fun _ _ => rfl)))); first | ((all_goals ((try dsimp only [laB] at *); (all_goals (try simp (disch := omega) only [w64', wu64', tdiv_pos, tmod_pos, Int.toNat_natCast, Nat.zero_add] at *)); (all_goals (((try dsimp only); (try simp (disch := omega) only [fdiv_nn, Int.reduceToNat, IntKind.bits, Nat.min_def, Nat.reduceLeDiff, if_true, if_false, Int.reducePow, wu8, wu32, w64', wu64', tdiv_pos, tmod_pos, Int.toNat_natCast, Nat.zero_add, chk_e, siz_e, hcx, hor, hwr, hws, cutR_s, cutL_s, cutR_n, cutL_n, Nat.add_zero, Nat.add_assoc, Nat.reduceAdd, Nat.sub_zero, and_1, and_4095]); (first | omega | rfl | exact e1 | exact q2 | exact q5)))))); done) | fail)
    exact ⟨hA.1, hA.2, fun _ => Decidable.not_not.1 (by assumption)⟩
  · have e1 : dM a.g = false := decide_eq_false (by assumption : ¬ (fr18 a.g).typ = 61889)
    obtain ⟨q1, q2⟩ := dM_f e1
    have q5 : w16 a.g (o2 a.g) = w16 a.g (o1 a.g) := by rw [q1]
    refine enter_mk (la := laB a) (_, _) ?_ (by (repeat' (first | ((conv => whnf); first | refine ⟨?_, ?_⟩ | exact trivial | fail) | (dsimp only; done) | ((try dsimp only); first | with_reducible exact rfl | exact Nat.le_refl _ | with_reducible exact (fun _ _ => rfl)))); first | ((all_goals ((try dsimp only [laB] at *); (all_goals (try simp (disch := omega) only [w64', wu64', tdiv_pos, tmod_pos, Int.toNat_natCast, Nat.zero_add] at *)); (all_goals (((try dsimp only); (try simp (disch := omega) only [fdiv_nn, Int.reduceToNat, IntKind.bits, Nat.min_def, Nat.reduceLeDiff, if_true, if_false, Int.reducePow, wu8, wu32, w64', wu64', tdiv_pos, tmod_pos, Int.toNat_natCast, Nat.zero_add, chk_e, siz_e, hcx, hor, hwr, hws, cutR_s, cutL_s, cutR_n, cutL_n, Nat.add_zero, Nat.add_assoc, Nat.reduceAdd, Nat.sub_zero, and_1, and_4095]); (first | omega | rfl | exact e1 | exact q2 | exact q5)))))); done) | fail)
    exact ⟨hA.1, hA.2, fun h => by rw [e1] at h; cases h⟩
  · have hd := derr_21 (a := a) (by omega) (by omega) hB.1.o fun h => (by have h9 := h.n; unfold dn at h9; omega)
    refine dec_no ?_ (by (repeat' (first | with_reducible exact rfl | exact Nat.le_refl _ | with_reducible exact (fun _ _ => rfl) | ((conv => whnf); first | refine ⟨?_, ?_⟩ | exact trivial | fail))); first | ((all_goals ((try dsimp only [id] at *); (all_goals (try simp (disch := omega) only [w64', wu64', tdiv_pos, tmod_pos, Int.toNat_natCast, Nat.zero_add] at *)); (all_goals ((exact hd))))); done) | fail)
    rw [hd]; decide
  · rename_i k1
    have hd := derr_21 (a := a) (by omega) (by omega) hB.1.o fun h => k1 h.c
    refine dec_no ?_ (by (repeat' (first | with_reducible exact rfl | exact Nat.le_refl _ | with_reducible exact (fun _ _ => rfl) | ((conv => whnf); first | refine ⟨?_, ?_⟩ | exact trivial | fail))); first | ((all_goals ((try dsimp only [id] at *); (all_goals (try simp (disch := omega) only [w64', wu64', tdiv_pos, tmod_pos, Int.toNat_natCast, Nat.zero_add] at *)); (all_goals ((exact hd))))); done) | fail)
    rw [hd]; decide
  · rename_i k1
    have hd := derr_21 (a := a) (by omega) (by omega) hB.1.o fun h => k1 (by have h9 := h.s; omega)
    refine dec_no ?_ (by (repeat' (first | with_reducible exact rfl | exact Nat.le_refl _ | with_reducible exact (fun _ _ => rfl) | ((conv => whnf); first | refine ⟨?_, ?_⟩ | exact trivial | fail))); first | ((all_goals ((try dsimp only [id] at *); (all_goals (try simp (disch := omega) only [w64', wu64', tdiv_pos, tmod_pos, Int.toNat_natCast, Nat.zero_add] at *)); (all_goals ((exact hd))))); done) | fail)
    rw [hd]; decide
  · rename_i k1 k2
    have hk := Decidable.not_not.1 k1
    have hz : (a.len : Int) = max 64 (siz (frD a.g (d0 (dn a.g)))) := by
      have hz1 := Decidable.not_not.1 k2
      omega
    refine enter_mk (la := laC a) (0, y.1, y.2, _, _) ?_ (by (repeat' (first | ((conv => whnf); first | refine ⟨?_, ?_⟩ | exact trivial | fail) | (dsimp only; done) | ((try dsimp only); first | with_reducible exact rfl | exact Nat.le_refl _ | with_reducible exact (fun _ _ => rfl)))); first | ((all_goals ((try dsimp only [laC] at *); (all_goals (try simp (disch := omega) only [w64', wu64', tdiv_pos, tmod_pos, Int.toNat_natCast, Nat.zero_add] at *)); (all_goals (((try dsimp only); (first | rfl | (try simp (disch := omega) only [fdiv_nn, Int.reduceToNat, IntKind.bits, Nat.min_def, Nat.reduceLeDiff, if_true, if_false, Int.reducePow, wu8, wu32, w64', wu64', tdiv_pos, tmod_pos, Int.toNat_natCast, Nat.zero_add, chk_e, siz_e, hcx, hor, hwr, hws, cutR_s, cutL_s, cutR_n, cutL_n, Nat.add_zero, Nat.add_assoc, Nat.reduceAdd, Nat.sub_zero, and_1, and_4095]); (first | done | omega | rfl | (rw [show y.1 - (o2 a.g + 2) - 2 = y.1 - (o2 a.g + 4) by omega]; rfl)))))))); done) | fail)
    dsimp only [laC]
    refine ⟨⟨Int.le_refl _, by omega⟩, hB.1, hB.2.1, ⟨by dsimp only; omega, by dsimp only; omega, fun r hr => ?_⟩, hB.2.2, by omega, hk, hz, fun r h1 h2 => by omega⟩
    dsimp only
    simp (disch := omega) only [fdiv_nn, Int.reduceToNat, IntKind.bits, Nat.min_def, Nat.reduceLeDiff, if_true, if_false, Int.reducePow, wu8, wu32, w64', wu64', tdiv_pos, tmod_pos, Int.toNat_natCast, Nat.zero_add, chk_e, siz_e, hcx, hor, hwr, hws, cutR_s, cutL_s, cutR_n, cutL_n, Nat.add_zero, Nat.add_assoc, Nat.reduceAdd, Nat.sub_zero, and_1, and_4095]
    rw [if_neg (by omega), if_pos (by omega)]
    unfold dG
    rw [Nat.add_assoc]
  · have hd := derr_21 (a := a) (by omega) (by omega) hB.1.o fun h => (by
      have h8 := (by assumption : ¬ z.2.2.1 (o2 a.g + (4 + (dn a.g + z.1.toNat))) = 0)
      rw [hcz _ (by omega)] at h8
      exact h8 (h.f _ (by omega) (by omega)))
    refine dec_no ?_ (by (repeat' (first | with_reducible exact rfl | exact Nat.le_refl _ | with_reducible exact (fun _ _ => rfl) | ((conv => whnf); first | refine ⟨?_, ?_⟩ | exact trivial | fail))); first | ((all_goals ((try dsimp only [id] at *); (all_goals (try simp (disch := omega) only [w64', wu64', tdiv_pos, tmod_pos, Int.toNat_natCast, Nat.zero_add] at *)); (all_goals ((exact hd))))); done) | fail)
    rw [hd]; decide
  · have h8 := Decidable.not_not.1 (by assumption : ¬ ¬ z.2.2.1 (o2 a.g + (4 + (dn a.g + z.1.toNat))) = 0)
    rw [hcz _ (by omega)] at h8
    refine enter_mk (la := laC a) (_, _, _, _, _) ?_ (by (repeat' (first | ((conv => whnf); first | refine ⟨?_, ?_⟩ | exact trivial | fail) | (dsimp only; done) | ((try dsimp only); first | with_reducible exact rfl | exact Nat.le_refl _ | with_reducible exact (fun _ _ => rfl)))); first | ((all_goals ((try dsimp only [laC] at *); (all_goals (try simp (disch := omega) only [w64', wu64', tdiv_pos, tmod_pos, Int.toNat_natCast, Nat.zero_add] at *)); (all_goals (((try dsimp only); (first | rfl | (try simp (disch := omega) only [fdiv_nn, Int.reduceToNat, IntKind.bits, Nat.min_def, Nat.reduceLeDiff, if_true, if_false, Int.reducePow, wu8, wu32, w64', wu64', tdiv_pos, tmod_pos, Int.toNat_natCast, Nat.zero_add, chk_e, siz_e, hcx, hor, hwr, hws, cutR_s, cutL_s, cutR_n, cutL_n, Nat.add_zero, Nat.add_assoc, Nat.reduceAdd, Nat.sub_zero, and_1, and_4095]); (first | done | omega | rfl))))))); done) | fail)
    dsimp only [laC]
    rw [w64' (by omega) (by omega)]
    refine ⟨⟨by omega, by omega⟩, z2, z3, z4, z5, by omega, z7, z8, fun r h1 h2 => ?_⟩
    by_cases h3 : r < o2 a.g + 4 + dn a.g + z.1.toNat
    · exact z9 r (by omega) (by omega)
    · rw [show r = o2 a.g + (4 + (dn a.g + z.1.toNat)) by omega]; exact h8
  · have hd := derr_0 (a := a) (by omega) (by omega) z2.o ⟨z5, by omega, z7, z8, fun r h1 h2 => z9 r (by omega) (by omega)⟩
    refine alt_r (alt_fam (α := CG) ⟨_, _⟩ ?_ (by (repeat' (first | with_reducible exact rfl | exact Nat.le_refl _ | with_reducible exact (fun _ _ => rfl) | ((conv => whnf); first | refine ⟨?_, ?_⟩ | exact trivial | fail))); first | ((all_goals ((try dsimp only [id, cutL] at *); (all_goals (try simp (disch := omega) only [w64', wu64', tdiv_pos, tmod_pos, Int.toNat_natCast, Nat.zero_add] at *)); (all_goals (rfl)))); done) | fail))
    exact ⟨hd, z4⟩
end
noncomputable def decS : ESpec Try.prog := newN fn34 (.s1 dB) cxDec (fun a => some (Bw a ∧ a.len ≤ 100000)) decAlts (fun _ v _ => dRen v) (fun _ => rfl) (fun x a ha => by
  rcases List.mem_cons.1 ha with h | h
  · rw [h]; rfl
  · rw [List.mem_singleton.1 h]; exact fun _ => rfl) dec_runs

end Go.Proofs.Ytiaadplhpkggeaa
