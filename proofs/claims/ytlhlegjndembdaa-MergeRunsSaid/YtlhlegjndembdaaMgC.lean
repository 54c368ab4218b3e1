/-
  Contracts of functions, and plain facts about them, that a claim of this seat uses.
-/
import Derived.Test.YtlhlegjndembdaaSx
import Derived.Test.YtlhlegjndembdaaMgB
import Derived.Test.YtlhlegjndembdaaProg
namespace Go.Proofs.Ytlhlegjndembdaa
open Go.Sx
set_option linter.unusedVariables false
set_option linter.unusedSimpArgs false
set_option maxRecDepth 100000

/-! merge: Check, New. -/
structure MC where
  w : Int
  o0 : Int
  o1 : Int
  o2 : Int
  a0 : Int
  a1 : Int
  a2 : Int
  ev : Int
  li : Int
def Lens.mc : Lens MC where
  sp := .agg [.i .i64, .i .i64, .i .i64, .i .i64, .i .i64, .i .i64, .i .i64, .i .i64, .i .i64]
  pat := fun a => match a with | .agg [.i .i64 a, .i .i64 b, .i .i64 c, .i .i64 d, .i .i64 e, .i .i64 f, .i .i64 g, .i .i64 h, .i .i64 i] => some ⟨a, b, c, d, e, f, g, h, i⟩ | _ => none
  arg := fun x => .agg [.i .i64 x.w, .i .i64 x.o0, .i .i64 x.o1, .i .i64 x.o2, .i .i64 x.a0, .i .i64 x.a1, .i .i64 x.a2, .i .i64 x.ev, .i .i64 x.li]
  ok := fun a x h => by
    split at h
    · cases h; rfl
    · cases h
def MCOK (c : MC) : Prop := (1 ≤ c.w ∧ c.w ≤ 8) ∧ (1 ≤ c.ev ∧ c.ev ≤ 1099511627776) ∧ 0 ≤ c.li ∧ c.li ≤ 1073741824
instance (c : MC) : Decidable (MCOK c) := by unfold MCOK; exact inferInstance
def MCs (c : MC) : Prop := MCOK c ∧ CfOK (c.o0, c.o1, c.o2) ∧ CfOK (c.a0, c.a1, c.a2)
instance (c : MC) : Decidable (MCs c) := by unfold MCs; exact inferInstance
def mchk (c : MC) : Int := if MCs c then 0 else 1
theorem mchk_0 {c : MC} (h : MCs c) : mchk c = 0 := if_pos h
theorem mchk_1 {c : MC} (h : ¬ MCs c) : mchk c = 1 := if_neg h
theorem chkC_01 (x : Int × Int × Int) : chkC x = if CfOK x then 0 else 1 := rfl
theorem mchk_one {c : MC} (h : ¬ chkC (c.o0, c.o1, c.o2) = 0) : mchk c = chkC (c.o0, c.o1, c.o2) := by
  by_cases h9 : CfOK (c.o0, c.o1, c.o2)
  · exact absurd (chkC_0 h9) h
  · rw [chkC_1 h9]; exact mchk_1 fun h8 => h9 h8.2.1
theorem mchk_all {c : MC} (hk : MCOK c) (h : ¬ ¬ chkC (c.o0, c.o1, c.o2) = 0) : mchk c = chkC (c.a0, c.a1, c.a2) := by
  by_cases h9 : CfOK (c.a0, c.a1, c.a2)
  · rw [chkC_0 h9]; exact mchk_0 ⟨hk, cf_of h, h9⟩
  · rw [chkC_1 h9]; exact mchk_1 fun h8 => h9 h8.2.2
noncomputable def cxMChk : Cx Try.prog := { ps := [chkCS], es := [], is := [], n0 := 0, loops := fun _ => none, cuts := fun _ => none }
section
attribute [local irreducible] chkC mchk
theorem mchk_runs (x : MC) (_ : obp (some True)) : Runs cxMChk Try.f41 [.one (.agg [i_ x.w, i_ x.o0, i_ x.o1, i_ x.o2, i_ x.a0, i_ x.a1, i_ x.a2, i_ x.ev, i_ x.li])] [] fun v _ => isRes (int_ .i64 (mchk x)) v := by
  repeat' (first | with_reducible exact trivial | with_reducible exact rfl | with_reducible exact Nat.le_refl _ | with_reducible exact (fun _ _ => rfl) | ((conv => whnf); first | (refine fun _ => ?_) | refine ⟨?_, ?_⟩ | exact trivial | exact Nat.le_refl _ | exact lex_q (by kernel_rfl) | exact lex_t (by kernel_rfl) | exact lex_h (by kernel_rfl) | fail))
  all_goals (try dsimp only at *)
  all_goals first
    | exact mchk_1 (fun h => by have h1 := h.1; unfold MCOK at h1; omega)
    | exact mchk_one (by assumption)
    | exact mchk_all (by unfold MCOK; omega) (by assumption)
end
noncomputable def mchkS : PSpec Try.prog := readN fn41 (.s1 Lens.mc) (fun _ => cxMChk) (fun _ => some True) (fun x => int_ .i64 (mchk x)) (fun _ => rfl) (fun _ => rfl) (fun _ => rfl) mchk_runs
/-! New -/
def MN (c : MC) (now : Int) : Prop := MCs c ∧ 0 ≤ now ∧ now ≤ 1099511627776
def mg0 (c : MC) (now : Int) : Mg := ⟨c.w.toNat, c.o0, c.o1, c.o2, c.a0, c.a1, c.a2, c.ev, c.li, IntKind.i64.wrap (now + c.ev), 0, 0, 0, fun _ => sq0 c.o0 c.o1 c.o2 now, sq0 c.a0 c.a1 c.a2 now⟩
theorem mg0_inv {c : MC} {now : Int} {cap : Nat} (h : MN c now) (h1 : c.w.toNat ≤ cap) (h2 : cap ≤ 9223372036854775807) : MgInv (mg0 c now) cap := by
  obtain ⟨⟨hk, ho, ha⟩, hn⟩ := h
  unfold MCOK at hk
  unfold CfOK at ho ha
  refine ⟨?_, ⟨h1, h2⟩, fun k _ => ?_, ?_⟩
  · show 1 ≤ c.w.toNat ∧ c.w.toNat ≤ 8
    omega
  · have h3 := ho.2.1; dsimp only at h3; show 1 ≤ c.o1 ∧ c.o1 ≤ 9223372036854775807
    omega
  · have h3 := ha.2.1; dsimp only at h3; show 1 ≤ c.a1 ∧ c.a1 ≤ 9223372036854775807
    omega
inductive MX where
  | m0 | m1 (n : Nat) | m2 (n : Nat) | m3 (n : Nat) | m4 (n : Nat) | m5 (n : Nat) | m6 (n : Nat) | m7 (n : Nat) | m8 (n : Nat)
def MX.k : MX → Nat
  | .m0 => 0 | .m1 _ => 1 | .m2 _ => 2 | .m3 _ => 3 | .m4 _ => 4 | .m5 _ => 5 | .m6 _ => 6 | .m7 _ => 7 | .m8 _ => 8
def MX.cap : MX → Nat
  | .m0 => 0 | .m1 n => n | .m2 n => n | .m3 n => n | .m4 n => n | .m5 n => n | .m6 n => n | .m7 n => n | .m8 n => n
def mnC (c : MC) (now : Int) (s : SA) : Option Reg := some ⟨true, .flat [i_ c.w, i_ c.o0, i_ c.o1, i_ c.o2, i_ c.a0, i_ c.a1, i_ c.a2, i_ c.ev, i_ c.li, s, .v (.pointer none), i_ (IntKind.i64.wrap (now + c.ev)), i_ 0, i_ 0, i_ 0]⟩
def mnQ (c : MC) (now : Int) : Option Reg := sqR (sq0 c.o0 c.o1 c.o2 now)
def mnB (c : MC) : Option Reg := some ⟨true, .flat [i_ c.w, i_ c.o0, i_ c.o1, i_ c.o2, i_ c.a0, i_ c.a1, i_ c.a2, i_ c.ev, i_ c.li]⟩
def mnM (c : MC) (now : Int) : MX → Mem
  | .m0 => [mnB c, mnC c now (.v (.slice none 0 0))]
  | .m1 n => [mnB c, mnC c now (.slc 2 1 0 1 n), some ⟨true, .room n [.ptr 3 0]⟩, mnQ c now]
  | .m2 n => [mnB c, mnC c now (.slc 2 1 0 2 n), some ⟨true, .room n [.ptr 3 0, .ptr 4 0]⟩, mnQ c now, mnQ c now]
  | .m3 n => [mnB c, mnC c now (.slc 2 1 0 3 n), some ⟨true, .room n [.ptr 3 0, .ptr 4 0, .ptr 5 0]⟩, mnQ c now, mnQ c now, mnQ c now]
  | .m4 n => [mnB c, mnC c now (.slc 2 1 0 4 n), some ⟨true, .room n [.ptr 3 0, .ptr 4 0, .ptr 5 0, .ptr 6 0]⟩, mnQ c now, mnQ c now, mnQ c now, mnQ c now]
  | .m5 n => [mnB c, mnC c now (.slc 2 1 0 5 n), some ⟨true, .room n [.ptr 3 0, .ptr 4 0, .ptr 5 0, .ptr 6 0, .ptr 7 0]⟩, mnQ c now, mnQ c now, mnQ c now, mnQ c now, mnQ c now]
  | .m6 n => [mnB c, mnC c now (.slc 2 1 0 6 n), some ⟨true, .room n [.ptr 3 0, .ptr 4 0, .ptr 5 0, .ptr 6 0, .ptr 7 0, .ptr 8 0]⟩, mnQ c now, mnQ c now, mnQ c now, mnQ c now, mnQ c now, mnQ c now]
  | .m7 n => [mnB c, mnC c now (.slc 2 1 0 7 n), some ⟨true, .room n [.ptr 3 0, .ptr 4 0, .ptr 5 0, .ptr 6 0, .ptr 7 0, .ptr 8 0, .ptr 9 0]⟩, mnQ c now, mnQ c now, mnQ c now, mnQ c now, mnQ c now, mnQ c now, mnQ c now]
  | .m8 n => [mnB c, mnC c now (.slc 2 1 0 8 n), some ⟨true, .room n [.ptr 3 0, .ptr 4 0, .ptr 5 0, .ptr 6 0, .ptr 7 0, .ptr 8 0, .ptr 9 0, .ptr 10 0]⟩, mnQ c now, mnQ c now, mnQ c now, mnQ c now, mnQ c now, mnQ c now, mnQ c now, mnQ c now]
def mnRen (S : St) : List Nat := match cellM S.m (S.ix 7) 9 with
  | some (.slc i _ _ _ _) => S.ix 2 :: S.ix 7 :: i :: ptrsM S.m i
  | _ => [S.ix 2, S.ix 7]
abbrev laMN (c : MC) (now : Int) : LA where
  ι := MX
  inv := fun x => MN c now ∧ (x.k : Int) ≤ c.w ∧ x.k ≤ x.cap ∧ x.cap ≤ 9223372036854775807
  T := fun x => ⟨61, [(1, int_ .i64 now), (2, .one (.a (.ptr 0 0))), (7, .one (.a (.ptr 1 0))), (29, int_ .i64 c.w), (30, int_ .i64 x.k)], mnM c now x⟩
  μ := fun x => 8 - x.k
  ren := fun S => mnRen S
noncomputable def cxMN (x : MC × Int) : Cx Try.prog := { ps := [mchkS], es := [], is := [inl fn15 cxNew], n0 := 0, loops := fun i => match i with | 8 => some (.inv (laMN x.1 x.2)) | _ => none, cuts := fun _ => none, xa := [apR] }
def capOf (m : Mem) (o : Nat) : Nat := match cellM m o 9 with | some (.slc _ _ _ _ n) => n | _ => 0
noncomputable def mnGs (x : MC × Int) (v : SV) (m : Mem) : List GC := match v with
  | .tup [.a (.ptr o _), _] => [.box (mgRen o m) 84 (mgP (mg0 x.1 x.2)) mgK (capOf m o)]
  | _ => []
def mnOut (v : SV) : List Nat := match v with | .tup [.a (.ptr o _), _] => [o] | _ => []
noncomputable def mnAlts (x : MC × Int) : List Alt := [.cond (MN x.1 x.2) (.tup [.a (.ptr 0 0), .a (i_ 0)]) [some ⟨true, .obj 84 (mgP (mg0 x.1 x.2)) (boxI mgK)⟩], .cond (¬ MN x.1 x.2) (.tup [.a (.v (.pointer none)), .a (i_ 1)]) []]
theorem alt_l {m0 : Mem} {ρ : List Nat} {v : SV} {m : Mem} {p : Prop} {v2 : SV} {m2 : Mem} {b : Alt} {l : List Alt} (hp : p) (h : altOne m0 ρ v m v2 m2) : anyAlt m0 ρ v m (.cond p v2 m2 :: b :: l) := .inl ⟨hp, h⟩
theorem alt_r {m0 : Mem} {ρ : List Nat} {v : SV} {m : Mem} {p : Prop} {v2 : SV} {m2 : Mem} {a : Alt} (hp : p) (h : altOne m0 ρ v m v2 m2) : anyAlt m0 ρ v m [a, .cond p v2 m2] := .inr ⟨hp, h⟩
theorem mn_c1 {c : MC} {now : Int} {x : MX} (h : (laMN c now).inv x) : chkC (c.o0, c.o1, c.o2) = 0 := chkC_0 h.1.1.2.1
theorem mn_c2 {c : MC} {now : Int} {x : MX} (h : (laMN c now).inv x) : chkC (c.a0, c.a1, c.a2) = 0 := chkC_0 h.1.1.2.2
theorem mn_of {c : MC} (h : ¬ ¬ mchk c = 0) : MCs c := by
  by_cases h9 : MCs c
  · exact h9
  · rw [mchk_1 h9] at h; exact absurd (by decide) h
theorem mn_no {c : MC} {now : Int} (h : ¬ mchk c = 0) : ¬ MN c now ∧ mchk c = 1 := by
  have h8 : ¬ MCs c := fun h9 => h (mchk_0 h9)
  exact ⟨fun h7 => h8 h7.1, mchk_1 h8⟩
theorem mn_lt {c : MC} {now : Int} (h : now < 0 ∨ 1099511627776 < now) : ¬ MN c now := fun h9 => by have := h9.2; omega
theorem mn_ok {c : MC} {now : Int} (h : ¬ ¬ mchk c = 0) (h1 : ¬ now < 0) (h2 : ¬ 1099511627776 < now) : MN c now := ⟨mn_of h, by omega, by omega⟩
theorem mn_w {c : MC} {now : Int} (h : MN c now) : 1 ≤ c.w ∧ c.w ≤ 8 := h.1.1.1
theorem mn_now {c : MC} {now : Int} {x : MX} (h : (laMN c now).inv x) : 0 ≤ now ∧ now ≤ 1099511627776 := h.1.2
theorem mn_x {c : MC} {now : Int} {x : MX} (h : (laMN c now).inv x) : (x.k : Int) ≤ c.w ∧ x.k ≤ x.cap ∧ x.cap ≤ 9223372036854775807 ∧ c.w ≤ 8 ∧ 1 ≤ c.w := ⟨h.2.1, h.2.2.1, h.2.2.2, (mn_w h.1).2, (mn_w h.1).1⟩
section
attribute [local irreducible] anyAlt enter chkC mchk MN
set_option maxHeartbeats 8000000 in
theorem mn_runs (x : MC × Int) : Runs (cxMN x) Try.f28 [.one (.agg [i_ x.1.w, i_ x.1.o0, i_ x.1.o1, i_ x.1.o2, i_ x.1.a0, i_ x.1.a1, i_ x.1.a2, i_ x.1.ev, i_ x.1.li]), int_ .i64 x.2] [] fun v m => ghosted (mnGs x) v m fun v m => anyAlt [] (mnOut v) v m (mnAlts x) := by
  obtain ⟨⟨w, o0, o1, o2, a0, a1, a2, ev, li⟩, now⟩ := x
  dsimp only at *
  repeat' (first | with_reducible exact trivial | with_reducible exact rfl | with_reducible exact Nat.le_refl _ | with_reducible exact (fun _ _ => rfl) | ((conv => whnf); first | ((refine fun (x : MX) => ?_); rcases x with x | x | x | x | x | x | x | x | x) | (refine fun (y : Nat) => ?_) | (exact fun h => absurd h (by decide)) | (intro h9; (have h8 := of_decide_eq_true (p := type_of% h9) (by decide)); clear h8 h9) | (refine fun _ => ?_) | refine ⟨?_, ?_⟩ | exact trivial | exact Nat.le_refl _ | exact lex_q (by kernel_rfl) | exact lex_t (by kernel_rfl) | exact lex_h (by kernel_rfl) | fail))
  all_goals (try decide)
  all_goals (try exact absurd (mn_c1 (c := ⟨w, o0, o1, o2, a0, a1, a2, ev, li⟩) (now := now) (by assumption)) (by assumption))
  all_goals (try exact absurd (mn_c2 (c := ⟨w, o0, o1, o2, a0, a1, a2, ev, li⟩) (now := now) (by assumption)) (by assumption))
  all_goals (try exact (Nat.mul_one _).symm)
  all_goals (try (have hv := mn_now (c := ⟨w, o0, o1, o2, a0, a1, a2, ev, li⟩) (now := now) (by assumption); have hx := mn_x (c := ⟨w, o0, o1, o2, a0, a1, a2, ev, li⟩) (now := now) (by assumption); dsimp only [MX.k, MX.cap] at hx; clear hv; (try dsimp only at *); omega))
  all_goals (try (have hv := mn_now (c := ⟨w, o0, o1, o2, a0, a1, a2, ev, li⟩) (now := now) (by assumption); omega))
  · obtain ⟨h1, h2⟩ := mn_no (c := ⟨w, o0, o1, o2, a0, a1, a2, ev, li⟩) (now := now) (by assumption); (conv => whnf); refine alt_r ?_ (by (repeat' (first | with_reducible exact rfl | exact Nat.le_refl _ | with_reducible exact (fun _ _ => rfl) | ((conv => whnf); first | refine ⟨?_, ?_⟩ | exact trivial | fail))); first | ((all_goals ((try dsimp only [laMN] at *); (all_goals (try simp (disch := omega) only [w64', wu64', tdiv_pos, tmod_pos, Int.toNat_natCast, Nat.zero_add] at *)); (all_goals ((first | exact h2 | rfl | omega))))); done) | fail); exact h1
  · have h1 := mn_lt (c := ⟨w, o0, o1, o2, a0, a1, a2, ev, li⟩) (now := now) (.inl (by assumption)); (conv => whnf); refine alt_r ?_ (by (repeat' (first | with_reducible exact rfl | exact Nat.le_refl _ | with_reducible exact (fun _ _ => rfl) | ((conv => whnf); first | refine ⟨?_, ?_⟩ | exact trivial | fail))); first | ((all_goals ((try dsimp only [laMN] at *); (all_goals (try simp (disch := omega) only [w64', wu64', tdiv_pos, tmod_pos, Int.toNat_natCast, Nat.zero_add] at *)); (all_goals ((first | rfl | omega))))); done) | fail); exact h1
  · have h1 := mn_lt (c := ⟨w, o0, o1, o2, a0, a1, a2, ev, li⟩) (now := now) (.inr (by assumption)); (conv => whnf); refine alt_r ?_ (by (repeat' (first | with_reducible exact rfl | exact Nat.le_refl _ | with_reducible exact (fun _ _ => rfl) | ((conv => whnf); first | refine ⟨?_, ?_⟩ | exact trivial | fail))); first | ((all_goals ((try dsimp only [laMN] at *); (all_goals (try simp (disch := omega) only [w64', wu64', tdiv_pos, tmod_pos, Int.toNat_natCast, Nat.zero_add] at *)); (all_goals ((first | rfl | omega))))); done) | fail); exact h1
  · have h9 := mn_ok (c := ⟨w, o0, o1, o2, a0, a1, a2, ev, li⟩) (now := now) (by assumption) (by assumption) (by assumption)
    have h8 := mn_w h9
    dsimp only at h8
    (conv => whnf); refine enter_mk (la := laMN ⟨w, o0, o1, o2, a0, a1, a2, ev, li⟩ now) MX.m0 ?_ (by (repeat' (first | ((conv => whnf); first | refine ⟨?_, ?_⟩ | exact trivial | fail) | (dsimp only; done) | ((try dsimp only); first | with_reducible exact rfl | exact Nat.le_refl _ | with_reducible exact (fun _ _ => rfl)))); all_goals ((first | rfl | decide | exact Nat.mul_one _ | exact (Nat.mul_one _).symm | omega)))
    exact ⟨h9, by show ((0 : Nat) : Int) ≤ w; omega, by decide, by decide⟩
  · have hv := (by assumption : (laMN ⟨w, o0, o1, o2, a0, a1, a2, ev, li⟩ now).inv (.m0))
    have hx := mn_x hv
    dsimp only [MX.k, MX.cap] at hx
    have hl := (by assumption : ((0 : Nat) : Int) < w)
    have hp := (by assumption : 1 ≤ y ∧ y ≤ 9223372036854775807)
    (conv => whnf); refine enter_mk (la := laMN ⟨w, o0, o1, o2, a0, a1, a2, ev, li⟩ now) (MX.m1 y) ?_ (by (repeat' (first | ((conv => whnf); first | refine ⟨?_, ?_⟩ | exact trivial | fail) | (dsimp only; done) | ((try dsimp only); first | with_reducible exact rfl | exact Nat.le_refl _ | with_reducible exact (fun _ _ => rfl)))); all_goals ((first | rfl | decide | exact Nat.mul_one _ | exact (Nat.mul_one _).symm | omega)))
    exact ⟨hv.1, by show ((1 : Nat) : Int) ≤ w; omega, by show 1 ≤ y; omega, by show y ≤ 9223372036854775807; omega⟩
  · have hv := (by assumption : (laMN ⟨w, o0, o1, o2, a0, a1, a2, ev, li⟩ now).inv (.m0))
    have hx := mn_x hv
    dsimp only [MX.k, MX.cap] at hx
    have hl := (by assumption : ¬ ((0 : Nat) : Int) < w)
    omega
  · have hv := (by assumption : (laMN ⟨w, o0, o1, o2, a0, a1, a2, ev, li⟩ now).inv (.m1 x))
    have hx := mn_x hv
    dsimp only [MX.k, MX.cap] at hx
    have hl := (by assumption : ((1 : Nat) : Int) < w)
    have hp := (by assumption : 1 + 1 ≤ x)
    (conv => whnf); refine enter_mk (la := laMN ⟨w, o0, o1, o2, a0, a1, a2, ev, li⟩ now) (MX.m2 x) ?_ (by (repeat' (first | ((conv => whnf); first | refine ⟨?_, ?_⟩ | exact trivial | fail) | (dsimp only; done) | ((try dsimp only); first | with_reducible exact rfl | exact Nat.le_refl _ | with_reducible exact (fun _ _ => rfl)))); all_goals ((first | rfl | decide | exact Nat.mul_one _ | exact (Nat.mul_one _).symm | omega)))
    exact ⟨hv.1, by show ((2 : Nat) : Int) ≤ w; omega, by show 2 ≤ x; omega, by show x ≤ 9223372036854775807; omega⟩
  · have hv := (by assumption : (laMN ⟨w, o0, o1, o2, a0, a1, a2, ev, li⟩ now).inv (.m1 x))
    have hx := mn_x hv
    dsimp only [MX.k, MX.cap] at hx
    have hl := (by assumption : ((1 : Nat) : Int) < w)
    have hp := (by assumption : 1 + 1 ≤ y ∧ y ≤ 9223372036854775807)
    (conv => whnf); refine enter_mk (la := laMN ⟨w, o0, o1, o2, a0, a1, a2, ev, li⟩ now) (MX.m2 y) ?_ (by (repeat' (first | ((conv => whnf); first | refine ⟨?_, ?_⟩ | exact trivial | fail) | (dsimp only; done) | ((try dsimp only); first | with_reducible exact rfl | exact Nat.le_refl _ | with_reducible exact (fun _ _ => rfl)))); all_goals ((first | rfl | decide | exact Nat.mul_one _ | exact (Nat.mul_one _).symm | omega)))
    exact ⟨hv.1, by show ((2 : Nat) : Int) ≤ w; omega, by show 2 ≤ y; omega, by show y ≤ 9223372036854775807; omega⟩
  · have hv := (by assumption : (laMN ⟨w, o0, o1, o2, a0, a1, a2, ev, li⟩ now).inv (.m1 x))
    have hx := mn_x hv
    dsimp only [MX.k, MX.cap] at hx
    have hl := (by assumption : ¬ ((1 : Nat) : Int) < w)
    obtain rfl : w = ((1 : Nat) : Int) := by omega
    repeat' (first | with_reducible exact trivial | with_reducible exact rfl | with_reducible exact Nat.le_refl _ | with_reducible exact (fun _ _ => rfl) | ((conv => whnf); first | (exact fun h => absurd h (by decide)) | (intro h9; (have h8 := of_decide_eq_true (p := type_of% h9) (by decide)); clear h8 h9) | (refine fun _ => ?_) | refine ⟨?_, ?_⟩ | exact trivial | exact Nat.le_refl _ | exact lex_q (by kernel_rfl) | exact lex_t (by kernel_rfl) | exact lex_h (by kernel_rfl) | fail))
    · exact mg0_inv hv.1 (show 1 ≤ x by omega) (show x ≤ 9223372036854775807 by omega)
    repeat (first | exact rfl | (show 1 ≤ x; omega))
    · (conv => whnf); refine alt_l ?_ (by (repeat' (first | with_reducible exact rfl | exact Nat.le_refl _ | with_reducible exact (fun _ _ => rfl) | ((conv => whnf); first | refine ⟨?_, ?_⟩ | exact trivial | fail))); first | ((all_goals ((try dsimp only [laMN] at *); (all_goals (try simp (disch := omega) only [w64', wu64', tdiv_pos, tmod_pos, Int.toNat_natCast, Nat.zero_add] at *)); (all_goals ((first | rfl | omega))))); done) | fail); exact hv.1
  · have hv := (by assumption : (laMN ⟨w, o0, o1, o2, a0, a1, a2, ev, li⟩ now).inv (.m2 x))
    have hx := mn_x hv
    dsimp only [MX.k, MX.cap] at hx
    have hl := (by assumption : ((2 : Nat) : Int) < w)
    have hp := (by assumption : 2 + 1 ≤ x)
    (conv => whnf); refine enter_mk (la := laMN ⟨w, o0, o1, o2, a0, a1, a2, ev, li⟩ now) (MX.m3 x) ?_ (by (repeat' (first | ((conv => whnf); first | refine ⟨?_, ?_⟩ | exact trivial | fail) | (dsimp only; done) | ((try dsimp only); first | with_reducible exact rfl | exact Nat.le_refl _ | with_reducible exact (fun _ _ => rfl)))); all_goals ((first | rfl | decide | exact Nat.mul_one _ | exact (Nat.mul_one _).symm | omega)))
    exact ⟨hv.1, by show ((3 : Nat) : Int) ≤ w; omega, by show 3 ≤ x; omega, by show x ≤ 9223372036854775807; omega⟩
  · have hv := (by assumption : (laMN ⟨w, o0, o1, o2, a0, a1, a2, ev, li⟩ now).inv (.m2 x))
    have hx := mn_x hv
    dsimp only [MX.k, MX.cap] at hx
    have hl := (by assumption : ((2 : Nat) : Int) < w)
    have hp := (by assumption : 2 + 1 ≤ y ∧ y ≤ 9223372036854775807)
    (conv => whnf); refine enter_mk (la := laMN ⟨w, o0, o1, o2, a0, a1, a2, ev, li⟩ now) (MX.m3 y) ?_ (by (repeat' (first | ((conv => whnf); first | refine ⟨?_, ?_⟩ | exact trivial | fail) | (dsimp only; done) | ((try dsimp only); first | with_reducible exact rfl | exact Nat.le_refl _ | with_reducible exact (fun _ _ => rfl)))); all_goals ((first | rfl | decide | exact Nat.mul_one _ | exact (Nat.mul_one _).symm | omega)))
    exact ⟨hv.1, by show ((3 : Nat) : Int) ≤ w; omega, by show 3 ≤ y; omega, by show y ≤ 9223372036854775807; omega⟩
  · have hv := (by assumption : (laMN ⟨w, o0, o1, o2, a0, a1, a2, ev, li⟩ now).inv (.m2 x))
    have hx := mn_x hv
    dsimp only [MX.k, MX.cap] at hx
    have hl := (by assumption : ¬ ((2 : Nat) : Int) < w)
    obtain rfl : w = ((2 : Nat) : Int) := by omega
    repeat' (first | with_reducible exact trivial | with_reducible exact rfl | with_reducible exact Nat.le_refl _ | with_reducible exact (fun _ _ => rfl) | ((conv => whnf); first | (exact fun h => absurd h (by decide)) | (intro h9; (have h8 := of_decide_eq_true (p := type_of% h9) (by decide)); clear h8 h9) | (refine fun _ => ?_) | refine ⟨?_, ?_⟩ | exact trivial | exact Nat.le_refl _ | exact lex_q (by kernel_rfl) | exact lex_t (by kernel_rfl) | exact lex_h (by kernel_rfl) | fail))
    · exact mg0_inv hv.1 (show 2 ≤ x by omega) (show x ≤ 9223372036854775807 by omega)
    repeat (first | exact rfl | (show 2 ≤ x; omega))
    · (conv => whnf); refine alt_l ?_ (by (repeat' (first | with_reducible exact rfl | exact Nat.le_refl _ | with_reducible exact (fun _ _ => rfl) | ((conv => whnf); first | refine ⟨?_, ?_⟩ | exact trivial | fail))); first | ((all_goals ((try dsimp only [laMN] at *); (all_goals (try simp (disch := omega) only [w64', wu64', tdiv_pos, tmod_pos, Int.toNat_natCast, Nat.zero_add] at *)); (all_goals ((first | rfl | omega))))); done) | fail); exact hv.1
  · have hv := (by assumption : (laMN ⟨w, o0, o1, o2, a0, a1, a2, ev, li⟩ now).inv (.m3 x))
    have hx := mn_x hv
    dsimp only [MX.k, MX.cap] at hx
    have hl := (by assumption : ((3 : Nat) : Int) < w)
    have hp := (by assumption : 3 + 1 ≤ x)
    (conv => whnf); refine enter_mk (la := laMN ⟨w, o0, o1, o2, a0, a1, a2, ev, li⟩ now) (MX.m4 x) ?_ (by (repeat' (first | ((conv => whnf); first | refine ⟨?_, ?_⟩ | exact trivial | fail) | (dsimp only; done) | ((try dsimp only); first | with_reducible exact rfl | exact Nat.le_refl _ | with_reducible exact (fun _ _ => rfl)))); all_goals ((first | rfl | decide | exact Nat.mul_one _ | exact (Nat.mul_one _).symm | omega)))
    exact ⟨hv.1, by show ((4 : Nat) : Int) ≤ w; omega, by show 4 ≤ x; omega, by show x ≤ 9223372036854775807; omega⟩
  · have hv := (by assumption : (laMN ⟨w, o0, o1, o2, a0, a1, a2, ev, li⟩ now).inv (.m3 x))
    have hx := mn_x hv
    dsimp only [MX.k, MX.cap] at hx
    have hl := (by assumption : ((3 : Nat) : Int) < w)
    have hp := (by assumption : 3 + 1 ≤ y ∧ y ≤ 9223372036854775807)
    (conv => whnf); refine enter_mk (la := laMN ⟨w, o0, o1, o2, a0, a1, a2, ev, li⟩ now) (MX.m4 y) ?_ (by (repeat' (first | ((conv => whnf); first | refine ⟨?_, ?_⟩ | exact trivial | fail) | (dsimp only; done) | ((try dsimp only); first | with_reducible exact rfl | exact Nat.le_refl _ | with_reducible exact (fun _ _ => rfl)))); all_goals ((first | rfl | decide | exact Nat.mul_one _ | exact (Nat.mul_one _).symm | omega)))
    exact ⟨hv.1, by show ((4 : Nat) : Int) ≤ w; omega, by show 4 ≤ y; omega, by show y ≤ 9223372036854775807; omega⟩
  · have hv := (by assumption : (laMN ⟨w, o0, o1, o2, a0, a1, a2, ev, li⟩ now).inv (.m3 x))
    have hx := mn_x hv
    dsimp only [MX.k, MX.cap] at hx
    have hl := (by assumption : ¬ ((3 : Nat) : Int) < w)
    obtain rfl : w = ((3 : Nat) : Int) := by omega
    repeat' (first | with_reducible exact trivial | with_reducible exact rfl | with_reducible exact Nat.le_refl _ | with_reducible exact (fun _ _ => rfl) | ((conv => whnf); first | (exact fun h => absurd h (by decide)) | (intro h9; (have h8 := of_decide_eq_true (p := type_of% h9) (by decide)); clear h8 h9) | (refine fun _ => ?_) | refine ⟨?_, ?_⟩ | exact trivial | exact Nat.le_refl _ | exact lex_q (by kernel_rfl) | exact lex_t (by kernel_rfl) | exact lex_h (by kernel_rfl) | fail))
    · exact mg0_inv hv.1 (show 3 ≤ x by omega) (show x ≤ 9223372036854775807 by omega)
    repeat (first | exact rfl | (show 3 ≤ x; omega))
    · (conv => whnf); refine alt_l ?_ (by (repeat' (first | with_reducible exact rfl | exact Nat.le_refl _ | with_reducible exact (fun _ _ => rfl) | ((conv => whnf); first | refine ⟨?_, ?_⟩ | exact trivial | fail))); first | ((all_goals ((try dsimp only [laMN] at *); (all_goals (try simp (disch := omega) only [w64', wu64', tdiv_pos, tmod_pos, Int.toNat_natCast, Nat.zero_add] at *)); (all_goals ((first | rfl | omega))))); done) | fail); exact hv.1
  · have hv := (by assumption : (laMN ⟨w, o0, o1, o2, a0, a1, a2, ev, li⟩ now).inv (.m4 x))
    have hx := mn_x hv
    dsimp only [MX.k, MX.cap] at hx
    have hl := (by assumption : ((4 : Nat) : Int) < w)
    have hp := (by assumption : 4 + 1 ≤ x)
    (conv => whnf); refine enter_mk (la := laMN ⟨w, o0, o1, o2, a0, a1, a2, ev, li⟩ now) (MX.m5 x) ?_ (by (repeat' (first | ((conv => whnf); first | refine ⟨?_, ?_⟩ | exact trivial | fail) | (dsimp only; done) | ((try dsimp only); first | with_reducible exact rfl | exact Nat.le_refl _ | with_reducible exact (fun _ _ => rfl)))); all_goals ((first | rfl | decide | exact Nat.mul_one _ | exact (Nat.mul_one _).symm | omega)))
    exact ⟨hv.1, by show ((5 : Nat) : Int) ≤ w; omega, by show 5 ≤ x; omega, by show x ≤ 9223372036854775807; omega⟩
  · have hv := (by assumption : (laMN ⟨w, o0, o1, o2, a0, a1, a2, ev, li⟩ now).inv (.m4 x))
    have hx := mn_x hv
    dsimp only [MX.k, MX.cap] at hx
    have hl := (by assumption : ((4 : Nat) : Int) < w)
    have hp := (by assumption : 4 + 1 ≤ y ∧ y ≤ 9223372036854775807)
    (conv => whnf); refine enter_mk (la := laMN ⟨w, o0, o1, o2, a0, a1, a2, ev, li⟩ now) (MX.m5 y) ?_ (by (repeat' (first | ((conv => whnf); first | refine ⟨?_, ?_⟩ | exact trivial | fail) | (dsimp only; done) | ((try dsimp only); first | with_reducible exact rfl | exact Nat.le_refl _ | with_reducible exact (fun _ _ => rfl)))); all_goals ((first | rfl | decide | exact Nat.mul_one _ | exact (Nat.mul_one _).symm | omega)))
    exact ⟨hv.1, by show ((5 : Nat) : Int) ≤ w; omega, by show 5 ≤ y; omega, by show y ≤ 9223372036854775807; omega⟩
  · have hv := (by assumption : (laMN ⟨w, o0, o1, o2, a0, a1, a2, ev, li⟩ now).inv (.m4 x))
    have hx := mn_x hv
    dsimp only [MX.k, MX.cap] at hx
    have hl := (by assumption : ¬ ((4 : Nat) : Int) < w)
    obtain rfl : w = ((4 : Nat) : Int) := by omega
    repeat' (first | with_reducible exact trivial | with_reducible exact rfl | with_reducible exact Nat.le_refl _ | with_reducible exact (fun _ _ => rfl) | ((conv => whnf); first | (exact fun h => absurd h (by decide)) | (intro h9; (have h8 := of_decide_eq_true (p := type_of% h9) (by decide)); clear h8 h9) | (refine fun _ => ?_) | refine ⟨?_, ?_⟩ | exact trivial | exact Nat.le_refl _ | exact lex_q (by kernel_rfl) | exact lex_t (by kernel_rfl) | exact lex_h (by kernel_rfl) | fail))
    · exact mg0_inv hv.1 (show 4 ≤ x by omega) (show x ≤ 9223372036854775807 by omega)
    repeat (first | exact rfl | (show 4 ≤ x; omega))
    · (conv => whnf); refine alt_l ?_ (by (repeat' (first | with_reducible exact rfl | exact Nat.le_refl _ | with_reducible exact (fun _ _ => rfl) | ((conv => whnf); first | refine ⟨?_, ?_⟩ | exact trivial | fail))); first | ((all_goals ((try dsimp only [laMN] at *); (all_goals (try simp (disch := omega) only [w64', wu64', tdiv_pos, tmod_pos, Int.toNat_natCast, Nat.zero_add] at *)); (all_goals ((first | rfl | omega))))); done) | fail); exact hv.1
  · have hv := (by assumption : (laMN ⟨w, o0, o1, o2, a0, a1, a2, ev, li⟩ now).inv (.m5 x))
    have hx := mn_x hv
    dsimp only [MX.k, MX.cap] at hx
    have hl := (by assumption : ((5 : Nat) : Int) < w)
    have hp := (by assumption : 5 + 1 ≤ x)
    (conv => whnf); refine enter_mk (la := laMN ⟨w, o0, o1, o2, a0, a1, a2, ev, li⟩ now) (MX.m6 x) ?_ (by (repeat' (first | ((conv => whnf); first | refine ⟨?_, ?_⟩ | exact trivial | fail) | (dsimp only; done) | ((try dsimp only); first | with_reducible exact rfl | exact Nat.le_refl _ | with_reducible exact (fun _ _ => rfl)))); all_goals ((first | rfl | decide | exact Nat.mul_one _ | exact (Nat.mul_one _).symm | omega)))
    exact ⟨hv.1, by show ((6 : Nat) : Int) ≤ w; omega, by show 6 ≤ x; omega, by show x ≤ 9223372036854775807; omega⟩
  · have hv := (by assumption : (laMN ⟨w, o0, o1, o2, a0, a1, a2, ev, li⟩ now).inv (.m5 x))
    have hx := mn_x hv
    dsimp only [MX.k, MX.cap] at hx
    have hl := (by assumption : ((5 : Nat) : Int) < w)
    have hp := (by assumption : 5 + 1 ≤ y ∧ y ≤ 9223372036854775807)
    (conv => whnf); refine enter_mk (la := laMN ⟨w, o0, o1, o2, a0, a1, a2, ev, li⟩ now) (MX.m6 y) ?_ (by (repeat' (first | ((conv => whnf); first | refine ⟨?_, ?_⟩ | exact trivial | fail) | (dsimp only; done) | ((try dsimp only); first | with_reducible exact rfl | exact Nat.le_refl _ | with_reducible exact (fun _ _ => rfl)))); all_goals ((first | rfl | decide | exact Nat.mul_one _ | exact (Nat.mul_one _).symm | omega)))
    exact ⟨hv.1, by show ((6 : Nat) : Int) ≤ w; omega, by show 6 ≤ y; omega, by show y ≤ 9223372036854775807; omega⟩
  · have hv := (by assumption : (laMN ⟨w, o0, o1, o2, a0, a1, a2, ev, li⟩ now).inv (.m5 x))
    have hx := mn_x hv
    dsimp only [MX.k, MX.cap] at hx
    have hl := (by assumption : ¬ ((5 : Nat) : Int) < w)
    obtain rfl : w = ((5 : Nat) : Int) := by omega
    repeat' (first | with_reducible exact trivial | with_reducible exact rfl | with_reducible exact Nat.le_refl _ | with_reducible exact (fun _ _ => rfl) | ((conv => whnf); first | (exact fun h => absurd h (by decide)) | (intro h9; (have h8 := of_decide_eq_true (p := type_of% h9) (by decide)); clear h8 h9) | (refine fun _ => ?_) | refine ⟨?_, ?_⟩ | exact trivial | exact Nat.le_refl _ | exact lex_q (by kernel_rfl) | exact lex_t (by kernel_rfl) | exact lex_h (by kernel_rfl) | fail))
    · exact mg0_inv hv.1 (show 5 ≤ x by omega) (show x ≤ 9223372036854775807 by omega)
    repeat (first | exact rfl | (show 5 ≤ x; omega))
    · (conv => whnf); refine alt_l ?_ (by (repeat' (first | with_reducible exact rfl | exact Nat.le_refl _ | with_reducible exact (fun _ _ => rfl) | ((conv => whnf); first | refine ⟨?_, ?_⟩ | exact trivial | fail))); first | ((all_goals ((try dsimp only [laMN] at *); (all_goals (try simp (disch := omega) only [w64', wu64', tdiv_pos, tmod_pos, Int.toNat_natCast, Nat.zero_add] at *)); (all_goals ((first | rfl | omega))))); done) | fail); exact hv.1
  · have hv := (by assumption : (laMN ⟨w, o0, o1, o2, a0, a1, a2, ev, li⟩ now).inv (.m6 x))
    have hx := mn_x hv
    dsimp only [MX.k, MX.cap] at hx
    have hl := (by assumption : ((6 : Nat) : Int) < w)
    have hp := (by assumption : 6 + 1 ≤ x)
    (conv => whnf); refine enter_mk (la := laMN ⟨w, o0, o1, o2, a0, a1, a2, ev, li⟩ now) (MX.m7 x) ?_ (by (repeat' (first | ((conv => whnf); first | refine ⟨?_, ?_⟩ | exact trivial | fail) | (dsimp only; done) | ((try dsimp only); first | with_reducible exact rfl | exact Nat.le_refl _ | with_reducible exact (fun _ _ => rfl)))); all_goals ((first | rfl | decide | exact Nat.mul_one _ | exact (Nat.mul_one _).symm | omega)))
    exact ⟨hv.1, by show ((7 : Nat) : Int) ≤ w; omega, by show 7 ≤ x; omega, by show x ≤ 9223372036854775807; omega⟩
  · have hv := (by assumption : (laMN ⟨w, o0, o1, o2, a0, a1, a2, ev, li⟩ now).inv (.m6 x))
    have hx := mn_x hv
    dsimp only [MX.k, MX.cap] at hx
    have hl := (by assumption : ((6 : Nat) : Int) < w)
    have hp := (by assumption : 6 + 1 ≤ y ∧ y ≤ 9223372036854775807)
    (conv => whnf); refine enter_mk (la := laMN ⟨w, o0, o1, o2, a0, a1, a2, ev, li⟩ now) (MX.m7 y) ?_ (by (repeat' (first | ((conv => whnf); first | refine ⟨?_, ?_⟩ | exact trivial | fail) | (dsimp only; done) | ((try dsimp only); first | with_reducible exact rfl | exact Nat.le_refl _ | with_reducible exact (fun _ _ => rfl)))); all_goals ((first | rfl | decide | exact Nat.mul_one _ | exact (Nat.mul_one _).symm | omega)))
    exact ⟨hv.1, by show ((7 : Nat) : Int) ≤ w; omega, by show 7 ≤ y; omega, by show y ≤ 9223372036854775807; omega⟩
  · have hv := (by assumption : (laMN ⟨w, o0, o1, o2, a0, a1, a2, ev, li⟩ now).inv (.m6 x))
    have hx := mn_x hv
    dsimp only [MX.k, MX.cap] at hx
    have hl := (by assumption : ¬ ((6 : Nat) : Int) < w)
    obtain rfl : w = ((6 : Nat) : Int) := by omega
    repeat' (first | with_reducible exact trivial | with_reducible exact rfl | with_reducible exact Nat.le_refl _ | with_reducible exact (fun _ _ => rfl) | ((conv => whnf); first | (exact fun h => absurd h (by decide)) | (intro h9; (have h8 := of_decide_eq_true (p := type_of% h9) (by decide)); clear h8 h9) | (refine fun _ => ?_) | refine ⟨?_, ?_⟩ | exact trivial | exact Nat.le_refl _ | exact lex_q (by kernel_rfl) | exact lex_t (by kernel_rfl) | exact lex_h (by kernel_rfl) | fail))
    · exact mg0_inv hv.1 (show 6 ≤ x by omega) (show x ≤ 9223372036854775807 by omega)
    repeat (first | exact rfl | (show 6 ≤ x; omega))
    · (conv => whnf); refine alt_l ?_ (by (repeat' (first | with_reducible exact rfl | exact Nat.le_refl _ | with_reducible exact (fun _ _ => rfl) | ((conv => whnf); first | refine ⟨?_, ?_⟩ | exact trivial | fail))); first | ((all_goals ((try dsimp only [laMN] at *); (all_goals (try simp (disch := omega) only [w64', wu64', tdiv_pos, tmod_pos, Int.toNat_natCast, Nat.zero_add] at *)); (all_goals ((first | rfl | omega))))); done) | fail); exact hv.1
  · have hv := (by assumption : (laMN ⟨w, o0, o1, o2, a0, a1, a2, ev, li⟩ now).inv (.m7 x))
    have hx := mn_x hv
    dsimp only [MX.k, MX.cap] at hx
    have hl := (by assumption : ((7 : Nat) : Int) < w)
    have hp := (by assumption : 7 + 1 ≤ x)
    (conv => whnf); refine enter_mk (la := laMN ⟨w, o0, o1, o2, a0, a1, a2, ev, li⟩ now) (MX.m8 x) ?_ (by (repeat' (first | ((conv => whnf); first | refine ⟨?_, ?_⟩ | exact trivial | fail) | (dsimp only; done) | ((try dsimp only); first | with_reducible exact rfl | exact Nat.le_refl _ | with_reducible exact (fun _ _ => rfl)))); all_goals ((first | rfl | decide | exact Nat.mul_one _ | exact (Nat.mul_one _).symm | omega)))
    exact ⟨hv.1, by show ((8 : Nat) : Int) ≤ w; omega, by show 8 ≤ x; omega, by show x ≤ 9223372036854775807; omega⟩
  · have hv := (by assumption : (laMN ⟨w, o0, o1, o2, a0, a1, a2, ev, li⟩ now).inv (.m7 x))
    have hx := mn_x hv
    dsimp only [MX.k, MX.cap] at hx
    have hl := (by assumption : ((7 : Nat) : Int) < w)
    have hp := (by assumption : 7 + 1 ≤ y ∧ y ≤ 9223372036854775807)
    (conv => whnf); refine enter_mk (la := laMN ⟨w, o0, o1, o2, a0, a1, a2, ev, li⟩ now) (MX.m8 y) ?_ (by (repeat' (first | ((conv => whnf); first | refine ⟨?_, ?_⟩ | exact trivial | fail) | (dsimp only; done) | ((try dsimp only); first | with_reducible exact rfl | exact Nat.le_refl _ | with_reducible exact (fun _ _ => rfl)))); all_goals ((first | rfl | decide | exact Nat.mul_one _ | exact (Nat.mul_one _).symm | omega)))
    exact ⟨hv.1, by show ((8 : Nat) : Int) ≤ w; omega, by show 8 ≤ y; omega, by show y ≤ 9223372036854775807; omega⟩
  · have hv := (by assumption : (laMN ⟨w, o0, o1, o2, a0, a1, a2, ev, li⟩ now).inv (.m7 x))
    have hx := mn_x hv
    dsimp only [MX.k, MX.cap] at hx
    have hl := (by assumption : ¬ ((7 : Nat) : Int) < w)
    obtain rfl : w = ((7 : Nat) : Int) := by omega
    repeat' (first | with_reducible exact trivial | with_reducible exact rfl | with_reducible exact Nat.le_refl _ | with_reducible exact (fun _ _ => rfl) | ((conv => whnf); first | (exact fun h => absurd h (by decide)) | (intro h9; (have h8 := of_decide_eq_true (p := type_of% h9) (by decide)); clear h8 h9) | (refine fun _ => ?_) | refine ⟨?_, ?_⟩ | exact trivial | exact Nat.le_refl _ | exact lex_q (by kernel_rfl) | exact lex_t (by kernel_rfl) | exact lex_h (by kernel_rfl) | fail))
    · exact mg0_inv hv.1 (show 7 ≤ x by omega) (show x ≤ 9223372036854775807 by omega)
    repeat (first | exact rfl | (show 7 ≤ x; omega))
    · (conv => whnf); refine alt_l ?_ (by (repeat' (first | with_reducible exact rfl | exact Nat.le_refl _ | with_reducible exact (fun _ _ => rfl) | ((conv => whnf); first | refine ⟨?_, ?_⟩ | exact trivial | fail))); first | ((all_goals ((try dsimp only [laMN] at *); (all_goals (try simp (disch := omega) only [w64', wu64', tdiv_pos, tmod_pos, Int.toNat_natCast, Nat.zero_add] at *)); (all_goals ((first | rfl | omega))))); done) | fail); exact hv.1
  · have hv := (by assumption : (laMN ⟨w, o0, o1, o2, a0, a1, a2, ev, li⟩ now).inv (.m8 x))
    have hx := mn_x hv
    dsimp only [MX.k, MX.cap] at hx
    have hl := (by assumption : ((8 : Nat) : Int) < w)
    omega
  · have hv := (by assumption : (laMN ⟨w, o0, o1, o2, a0, a1, a2, ev, li⟩ now).inv (.m8 x))
    have hx := mn_x hv
    dsimp only [MX.k, MX.cap] at hx
    have hl := (by assumption : ((8 : Nat) : Int) < w)
    omega
  · have hv := (by assumption : (laMN ⟨w, o0, o1, o2, a0, a1, a2, ev, li⟩ now).inv (.m8 x))
    have hx := mn_x hv
    dsimp only [MX.k, MX.cap] at hx
    have hl := (by assumption : ¬ ((8 : Nat) : Int) < w)
    obtain rfl : w = ((8 : Nat) : Int) := by omega
    repeat' (first | with_reducible exact trivial | with_reducible exact rfl | with_reducible exact Nat.le_refl _ | with_reducible exact (fun _ _ => rfl) | ((conv => whnf); first | (exact fun h => absurd h (by decide)) | (intro h9; (have h8 := of_decide_eq_true (p := type_of% h9) (by decide)); clear h8 h9) | (refine fun _ => ?_) | refine ⟨?_, ?_⟩ | exact trivial | exact Nat.le_refl _ | exact lex_q (by kernel_rfl) | exact lex_t (by kernel_rfl) | exact lex_h (by kernel_rfl) | fail))
    · exact mg0_inv hv.1 (show 8 ≤ x by omega) (show x ≤ 9223372036854775807 by omega)
    repeat (first | exact rfl | (show 8 ≤ x; omega))
    · (conv => whnf); refine alt_l ?_ (by (repeat' (first | with_reducible exact rfl | exact Nat.le_refl _ | with_reducible exact (fun _ _ => rfl) | ((conv => whnf); first | refine ⟨?_, ?_⟩ | exact trivial | fail))); first | ((all_goals ((try dsimp only [laMN] at *); (all_goals (try simp (disch := omega) only [w64', wu64', tdiv_pos, tmod_pos, Int.toNat_natCast, Nat.zero_add] at *)); (all_goals ((first | rfl | omega))))); done) | fail); exact hv.1
end
noncomputable def mnS : ESpec Try.prog := newG fn28 (.s2 Lens.mc (.int .i64)) cxMN (fun _ => none) mnAlts (fun x v m => mnGs x v m) (fun _ v _ => mnOut v) (fun _ => rfl) (fun a al hal => by
  rcases List.mem_cons.1 hal with rfl | hal
  · exact rfl
  · rw [List.mem_singleton.1 hal]; exact rfl) (fun x _ => mn_runs x)

end Go.Proofs.Ytlhlegjndembdaa
