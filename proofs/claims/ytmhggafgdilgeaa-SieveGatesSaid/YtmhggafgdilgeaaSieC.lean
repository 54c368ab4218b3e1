/-
  Contracts of functions, and plain facts about them, that a claim of this seat uses.
-/
import Derived.Test.YtmhggafgdilgeaaSx
import Derived.Test.YtmhggafgdilgeaaSieB
import Derived.Test.YtmhggafgdilgeaaProg
namespace Go.Proofs.Ytmhggafgdilgeaa
open Go.Sx
set_option linter.unusedVariables false
set_option linter.unusedSimpArgs false
set_option maxRecDepth 100000

/-! sieve: Open, Counts, New. -/
def opBad (t : Sv) (i : Int) : Prop := i < 0 ∨ (t.n : Int) ≤ i
instance (t : Sv) (i : Int) : Decidable (opBad t i) := by unfold opBad; exact inferInstance
def opE (t : Sv) (i : Int) : Int := if opBad t i then 5 else 0
def opT (t : Sv) (i : Int) : Sv := if opBad t i then t else { t with bl := upB t.bl i.toNat false }
noncomputable def cxOp : Cx Try.prog := { ps := [], es := [], is := [], n0 := 1, loops := fun _ => none, cuts := fun _ => none }
section
attribute [local irreducible] anyO
set_option maxHeartbeats 8000000 in
theorem op_runs (t : Sv) (i : Int) (hi : SvInv t) : Runs cxOp Try.f11 (.one (.a (.ptr 0 0)) :: [int_ .i64 i]) (svMem t) fun v m => ghosted (fun _ _ => []) v m fun v m => anyO svK svRen v m [.one (int_ .i64 (opE t i)) (svP (opT t i))] := by
  have hcap := hi.cap
  have hbad : opBad t i → opE t i = 5 ∧ opT t i = t := fun h => ⟨if_pos h, if_pos h⟩
  have hgo : ¬ opBad t i → opE t i = 0 ∧ opT t i = { t with bl := upB t.bl i.toNat false } := fun h => ⟨if_neg h, if_neg h⟩
  repeat' (first | with_reducible exact trivial | with_reducible exact rfl | with_reducible exact Nat.le_refl _ | with_reducible exact (fun _ _ => rfl) | ((conv => whnf); first | (exact fun h => absurd h (by decide)) | (intro h9; (have h8 := of_decide_eq_true (p := type_of% h9) (by decide)); clear h8 h9) | (refine fun _ => ?_) | refine ⟨?_, ?_⟩ | exact trivial | exact Nat.le_refl _ | exact lex_q (by kernel_rfl) | exact lex_t (by kernel_rfl) | exact lex_h (by kernel_rfl) | fail))
  all_goals (try omega)
  · obtain ⟨e1, e2⟩ := hbad (.inl (by assumption))
    rw [e1, e2]
    (conv => whnf); refine o_one () (by (repeat' (first | ((conv => whnf); first | refine ⟨?_, ?_⟩ | exact trivial | fail) | (dsimp only; done) | ((try dsimp only); first | with_reducible exact rfl | exact Nat.le_refl _ | with_reducible exact (fun _ _ => rfl)))); all_goals ((first | rfl | exact fun _ _ => rfl))) ?_; exact hi
  · obtain ⟨e1, e2⟩ := hbad (.inr (by assumption))
    rw [e1, e2]
    (conv => whnf); refine o_one () (by (repeat' (first | ((conv => whnf); first | refine ⟨?_, ?_⟩ | exact trivial | fail) | (dsimp only; done) | ((try dsimp only); first | with_reducible exact rfl | exact Nat.le_refl _ | with_reducible exact (fun _ _ => rfl)))); all_goals ((first | rfl | exact fun _ _ => rfl))) ?_; exact hi
  · exact absurd (hi.none_ (0 + i.toNat) (by omega)).2 (Int.not_lt.2 (by assumption))
  · obtain ⟨e1, e2⟩ := hgo (by unfold opBad; omega)
    have h0 : 0 + i.toNat = i.toNat := Nat.zero_add _
    rw [e1, e2]
    (conv => whnf); refine o_one () (by (repeat' (first | ((conv => whnf); first | refine ⟨?_, ?_⟩ | exact trivial | fail) | (dsimp only; done) | ((try dsimp only); first | with_reducible exact rfl | exact Nat.le_refl _ | with_reducible exact (fun _ _ => rfl)))); all_goals ((first | rfl | exact fun _ _ => rfl | (intro r _; rw [h0]; rfl)))) ?_; exact ⟨hi.n, hi.cap, hi.none_⟩
end
noncomputable def opS : ESpec Try.prog := obN fn11 56 svK (.s1 (.int .i64)) svR svP svR_ok (fun _ => rfl) (fun _ _ _ => cxOp) (fun _ _ => True) (fun t y => [.one (int_ .i64 (opE t y)) (svP (opT t y))]) (fun _ _ => []) (fun _ _ => svRen) (fun _ _ _ => rfl) (fun t y _ _ hi => op_runs t y hi)
/-! Counts -/
def ctX (t : Sv) (i : Int) (k : Nat) : Int := if i < 0 ∨ (t.n : Int) + 1 ≤ i then 0 else t.ct k i.toNat
def ctV (t : Sv) (i : Int) : SV := .one (.agg [i_ (ctX t i 0), i_ (ctX t i 1), i_ (ctX t i 2), i_ (ctX t i 3), i_ (ctX t i 4), i_ (ctX t i 5)])
theorem ct_no {t : Sv} {i : Int} (h : i < 0 ∨ (t.n : Int) + 1 ≤ i) : ctV t i = .one (.agg [i_ 0, i_ 0, i_ 0, i_ 0, i_ 0, i_ 0]) := by
  unfold ctV ctX
  rw [if_pos h, if_pos h, if_pos h, if_pos h, if_pos h, if_pos h]
theorem ct_yes {t : Sv} {i : Int} (h : ¬ (i < 0 ∨ (t.n : Int) + 1 ≤ i)) : ctV t i = .one (.agg [i_ (t.ct 0 i.toNat), i_ (t.ct 1 i.toNat), i_ (t.ct 2 i.toNat), i_ (t.ct 3 i.toNat), i_ (t.ct 4 i.toNat), i_ (t.ct 5 i.toNat)]) := by
  unfold ctV ctX
  rw [if_neg h, if_neg h, if_neg h, if_neg h, if_neg h, if_neg h]
section
attribute [local irreducible] anyO
set_option maxHeartbeats 8000000 in
theorem ct_runs (t : Sv) (i : Int) (hi : SvInv t) : Runs cxOp Try.f12 (.one (.a (.ptr 0 0)) :: [int_ .i64 i]) (svMem t) fun v m => ghosted (fun _ _ => []) v m fun v m => anyO svK svRen v m [.one (ctV t i) (svP t)] := by
  have hcap := hi.cap
  have h0 : 0 + i.toNat = i.toNat := Nat.zero_add _
  repeat' (first | with_reducible exact trivial | with_reducible exact rfl | with_reducible exact Nat.le_refl _ | with_reducible exact (fun _ _ => rfl) | ((conv => whnf); first | (exact fun h => absurd h (by decide)) | (intro h9; (have h8 := of_decide_eq_true (p := type_of% h9) (by decide)); clear h8 h9) | (refine fun _ => ?_) | refine ⟨?_, ?_⟩ | exact trivial | exact Nat.le_refl _ | exact lex_q (by kernel_rfl) | exact lex_t (by kernel_rfl) | exact lex_h (by kernel_rfl) | fail))
  all_goals (try omega)
  · rw [ct_no (.inl (by assumption))]
    (conv => whnf); refine o_one () (by (repeat' (first | ((conv => whnf); first | refine ⟨?_, ?_⟩ | exact trivial | fail) | (dsimp only; done) | ((try dsimp only); first | with_reducible exact rfl | exact Nat.le_refl _ | with_reducible exact (fun _ _ => rfl)))); all_goals ((first | rfl | exact fun _ _ => rfl))) ?_; exact hi
  · rw [ct_no (.inr (by omega))]
    (conv => whnf); refine o_one () (by (repeat' (first | ((conv => whnf); first | refine ⟨?_, ?_⟩ | exact trivial | fail) | (dsimp only; done) | ((try dsimp only); first | with_reducible exact rfl | exact Nat.le_refl _ | with_reducible exact (fun _ _ => rfl)))); all_goals ((first | rfl | exact fun _ _ => rfl))) ?_; exact hi
  · rw [ct_yes (by omega)]
    (conv => whnf); refine o_one () (by (repeat' (first | ((conv => whnf); first | refine ⟨?_, ?_⟩ | exact trivial | fail) | (dsimp only; done) | ((try dsimp only); first | with_reducible exact rfl | exact Nat.le_refl _ | with_reducible exact (fun _ _ => rfl)))); all_goals ((first | rfl | exact fun _ _ => rfl | (rw [h0])))) ?_; exact hi
end
noncomputable def ctS : PSpec Try.prog := obP fn12 56 svK (.s1 (.int .i64)) svR svP svR_ok (fun _ => rfl) (fun _ _ _ => cxOp) (fun _ _ => True) (fun t y => ctV t y) (fun _ _ => []) (fun _ _ => svRen) (fun _ _ _ => rfl) (fun t y _ _ hi => ct_runs t y hi)
/-! New -/
structure SI where
  len : Nat
  cap : Nat
  N : Nat
  c : Sc
def Lens.strm : Lens SI where
  sp := .a (.s [some .i64, some .i64, some .u8, some .u8, some .u8, some .u8, some .u8, some .u8, none, some .i64, some .i64, some .i64, none, some .i64])
  pat := fun a => match a with | .a (.s len cap N [.int .i64 po, .int .i64 vid, .int .u8 m0, .int .u8 m1, .int .u8 m2, .int .u8 m3, .int .u8 m4, .int .u8 m5, .bool src, .int .i64 ga, .int .i64 pr, .int .i64 mx, .bool sh, .int .i64 ra]) => some ⟨len, cap, N, ⟨po, vid, m0, m1, m2, m3, m4, m5, src, ga, pr, mx, sh, ra⟩⟩ | _ => none
  arg := fun x => .a (.s x.len x.cap x.N (scC x.c))
  ok := fun a x h => by
    split at h
    · cases h; rfl
    · cases h
def Lens.nil : Lens Unit where
  sp := .a (.s [])
  pat := fun a => match a with | .a (.s 0 0 0 []) => some () | _ => none
  arg := fun _ => .a (.s 0 0 0 [])
  ok := fun a x h => by
    split at h
    · rfl
    · cases h
/-- a stream as it may be, without gates and meters -/
def rowOK (c : Sc) (r : Nat) : Prop := (-1 ≤ c.po r ∧ c.po r < 8) ∧ (1 ≤ c.vid r ∧ c.vid r ≤ 4094) ∧ c.ga r = -1 ∧ (-1 ≤ c.pr r ∧ c.pr r ≤ 7) ∧ (0 ≤ c.mx r ∧ c.mx r ≤ 1600) ∧ c.ra r = -1
theorem rowOK_out {c : Sc} {r : Nat} (h : rowOK c r) : (-1 ≤ c.po r ∧ c.po r < 8) ∧ (1 ≤ c.vid r ∧ c.vid r ≤ 4094) ∧ c.ga r = -1 ∧ (-1 ≤ c.pr r ∧ c.pr r ≤ 7) ∧ (0 ≤ c.mx r ∧ c.mx r ≤ 1600) ∧ c.ra r = -1 := h
theorem rowOK_mk {c : Sc} {r : Nat} (h : (-1 ≤ c.po r ∧ c.po r < 8) ∧ (1 ≤ c.vid r ∧ c.vid r ≤ 4094) ∧ c.ga r = -1 ∧ (-1 ≤ c.pr r ∧ c.pr r ≤ 7) ∧ (0 ≤ c.mx r ∧ c.mx r ≤ 1600) ∧ c.ra r = -1) : rowOK c r := h
def newOK (y : SI) : Prop := y.len ≤ 64 ∧ ∀ r, r < y.len → rowOK y.c r
theorem newOK_out {y : SI} (h : newOK y) : y.len ≤ 64 ∧ ∀ r, r < y.len → rowOK y.c r := h
theorem newOK_mk {y : SI} (h : y.len ≤ 64 ∧ ∀ r, r < y.len → rowOK y.c r) : newOK y := h
def same (c d : Sc) (r : Nat) : Prop := c.po r = d.po r ∧ c.vid r = d.vid r ∧ c.m0 r = d.m0 r ∧ c.m1 r = d.m1 r ∧ c.m2 r = d.m2 r ∧ c.m3 r = d.m3 r ∧ c.m4 r = d.m4 r ∧ c.m5 r = d.m5 r ∧ c.src r = d.src r ∧ c.ga r = d.ga r ∧ c.pr r = d.pr r ∧ c.mx r = d.mx r ∧ c.sh r = d.sh r ∧ c.ra r = d.ra r
theorem same_out {c d : Sc} {r : Nat} (h : same c d r) : c.po r = d.po r ∧ c.vid r = d.vid r ∧ c.m0 r = d.m0 r ∧ c.m1 r = d.m1 r ∧ c.m2 r = d.m2 r ∧ c.m3 r = d.m3 r ∧ c.m4 r = d.m4 r ∧ c.m5 r = d.m5 r ∧ c.src r = d.src r ∧ c.ga r = d.ga r ∧ c.pr r = d.pr r ∧ c.mx r = d.mx r ∧ c.sh r = d.sh r ∧ c.ra r = d.ra r := h
theorem same_mk {c d : Sc} {r : Nat} (h : c.po r = d.po r ∧ c.vid r = d.vid r ∧ c.m0 r = d.m0 r ∧ c.m1 r = d.m1 r ∧ c.m2 r = d.m2 r ∧ c.m3 r = d.m3 r ∧ c.m4 r = d.m4 r ∧ c.m5 r = d.m5 r ∧ c.src r = d.src r ∧ c.ga r = d.ga r ∧ c.pr r = d.pr r ∧ c.mx r = d.mx r ∧ c.sh r = d.sh r ∧ c.ra r = d.ra r) : same c d r := h
def sv0 (n cap : Nat) (c : Sc) : Sv := ⟨n, cap, c, fun _ => false, fun _ _ => 0⟩
def roS (y : SI) : Option Reg := some ⟨false, .tab y.N (scC y.c)⟩
def nilR : Option Reg := some ⟨false, .tab 0 []⟩
def newM (y : SI) : Mem := [roS y, nilR, nilR]
def Sw (y : SI) : Prop := y.len ≤ y.cap ∧ y.len ≤ y.N ∧ y.cap ≤ 9223372036854775807
def newE (y : SI) : Int := if 64 < y.len then 4 else 1
def newAlts (y : SI) : List Alt := [.fam (Sc × Nat) (fun x => newOK y ∧ (∀ r, r < y.len → same x.1 y.c r) ∧ y.len ≤ x.2 ∧ x.2 ≤ 9223372036854775807) (fun _ => .tup [.a (.ptr 3 0), .a (i_ 0)]) (fun x => newM y ++ [some ⟨true, .obj 56 (svP (sv0 y.len x.2 x.1)) (boxI svK)⟩]), .cond (¬ newOK y) (.tup [.a (.v (.pointer none)), .a (i_ (newE y))]) (newM y)]
def cellM (m : Mem) (o c : Nat) : Option SA := match (m[o]? : Option (Option Reg)) with | some (some ⟨_, .flat l⟩) => l[c]? | _ => none
def regOf : SA → Nat
  | .slc i _ _ _ _ => i
  | _ => 0
def regM (m : Mem) (o c : Nat) : Nat := match cellM m o c with | some x => regOf x | none => 0
def scZ : Sc := ⟨z0, z0, z0, z0, z0, z0, z0, z0, f0, z0, z0, z0, f0, z0⟩
def scM (m : Mem) (o : Nat) : Sc × Nat := match cellM m o 0 with
  | some (.slc i _ _ _ cap) => (match (m[i]? : Option (Option Reg)) with
    | some (some ⟨_, .tab _ [.int _ po, .int _ vid, .int _ m0, .int _ m1, .int _ m2, .int _ m3, .int _ m4, .int _ m5, .bool src, .int _ ga, .int _ pr, .int _ mx, .bool sh, .int _ ra]⟩) => (⟨po, vid, m0, m1, m2, m3, m4, m5, src, ga, pr, mx, sh, ra⟩, cap)
    | _ => (scZ, 0))
  | _ => (scZ, 0)
def newGs (y : SI) (v : SV) (m : Mem) : List GC := match v with
  | .tup [.a (.ptr o _), _] => [.box [o, regM m o 0, regM m o 3, regM m o 4] 56 (svP (sv0 y.len (scM m o).2 (scM m o).1)) svK ()]
  | _ => []
def newRen (v : SV) : List Nat := match v with | .tup [.a (.ptr o _), _] => [0, 1, 2, o] | _ => [0, 1, 2]
def z14 : List Col := [.int .i64 fun _ => 0, .int .i64 fun _ => 0, .int .u8 fun _ => 0, .int .u8 fun _ => 0, .int .u8 fun _ => 0, .int .u8 fun _ => 0, .int .u8 fun _ => 0, .int .u8 fun _ => 0, .bool fun _ => false, .int .i64 fun _ => 0, .int .i64 fun _ => 0, .int .i64 fun _ => 0, .bool fun _ => false, .int .i64 fun _ => 0]
theorem alt_lf {m0 : Mem} {ρ : List Nat} {v : SV} {m : Mem} {α : Type} {p : α → Prop} {v2 : α → SV} {m2 : α → Mem} {b : Alt} {l : List Alt} (y : α) (hp : p y) (h : altOne m0 ρ v m (v2 y) (m2 y)) : anyAlt m0 ρ v m (.fam α p v2 m2 :: b :: l) := .inl ⟨y, hp, h⟩
theorem alt_r {m0 : Mem} {ρ : List Nat} {v : SV} {m : Mem} {p : Prop} {v2 : SV} {m2 : Mem} {a : Alt} (hp : p) (h : altOne m0 ρ v m v2 m2) : anyAlt m0 ρ v m [a, .cond p v2 m2] := .inr ⟨hp, h⟩
structure NX where
  i : Nat
  cap : Nat
  c : Sc
abbrev laNew (y : SI) : LA where
  ι := NX
  inv := fun x => (x.i ≤ y.len ∧ y.len ≤ 64) ∧ (x.i ≤ x.cap ∧ x.cap ≤ 9223372036854775807) ∧ (∀ r, r < x.i → rowOK y.c r) ∧ ∀ r, r < x.i → same x.c y.c r
  T := fun x => ⟨174, [(1, .one (.a (.slc 1 0 0 0 0))), (2, .one (.a (.slc 2 0 0 0 0))), (8, .one (.a (.v (.pointer none)))), (9, int_ .i64 0), (10, .one (.a (.ptr 3 0))), (42, .one (.a (.slc 0 14 0 y.len y.cap))), (43, int_ .i64 y.len), (44, int_ .i64 x.i)], [roS y, nilR, nilR, some ⟨true, .flat [.slc 4 14 0 x.i x.cap, nilS, nilS, .slc 5 1 0 y.len y.len, .slc 6 6 0 (y.len + 1) (y.len + 1)]⟩, some ⟨true, .tab x.cap (scC x.c)⟩, some ⟨true, .tab y.len [.bool fun _ => false]⟩, some ⟨true, .tab (y.len + 1) (ctC fun _ _ => 0)⟩]⟩
  μ := fun x => y.len - x.i
  ren := fun S => [0, 1, 2, S.ix 10, regM S.m (S.ix 10) 0, regM S.m (S.ix 10) 3, regM S.m (S.ix 10) 4]
  gs := fun S => match cellM S.m (S.ix 10) 0 with | some (.v _) => [.nil (S.ix 10) 0 14 z14] | _ => []
abbrev laC (y : SI) : LA where
  ι := Unit
  inv := fun _ => y.len ≤ 64
  T := fun _ => ⟨174, [(0, .one (.a (.slc 0 14 0 y.len y.cap))), (1, .one (.a (.slc 1 0 0 0 0))), (2, .one (.a (.slc 2 0 0 0 0))), (8, .one (.a (.v (.pointer none)))), (9, int_ .i64 0), (10, .one (.a (.ptr 3 0)))], [roS y, nilR, nilR, some ⟨true, .flat [nilS, nilS, nilS, .slc 4 1 0 y.len y.len, .slc 5 6 0 (y.len + 1) (y.len + 1)]⟩, some ⟨true, .tab y.len [.bool fun _ => false]⟩, some ⟨true, .tab (y.len + 1) (ctC fun _ _ => 0)⟩]⟩
  μ := fun _ => 0
  ren := fun S => [0, 1, 2, S.ix 10, regM S.m (S.ix 10) 3, regM S.m (S.ix 10) 4]
noncomputable def cxNew (y : SI) : Cx Try.prog := { ps := [], es := [], is := [], n0 := 3, loops := fun i => match i with | 5 => some (.inv (laNew y)) | 12 => some (.rounds 1) | 21 => some (.rounds 1) | _ => none, cuts := fun i => match i with | 4 => some (laC y) | _ => none, held := fun i => match i with | 3 => some (true, .take 0 (.take 1 (.take 3 (.take 4 (.take 5 (.two 2 (.one 6 (.take 7 (.one 8 (.take 9 .done)))) 6 (.one 2 (.take 7 (.one 8 (.take 9 .done)))))))))) | 9 => some (true, .take 0 (.take 1 (.take 2 (.take 3 (.two 4 (.one 5 (.one 6 (.one 7 (.take 8 (.take 9 (.one 10 .done)))))) 5 (.two 4 (.one 6 (.one 7 (.take 8 (.take 9 (.one 10 .done))))) 6 (.one 4 (.one 7 (.take 8 (.take 9 (.one 10 .done))))))))))) | _ => none, lose := fun i => match i with | 9 => [3, 4] | _ => [] }
theorem new_inv {y : SI} {i cap : Nat} {c : Sc} (h64 : y.len ≤ 64) (hi : i = y.len) (h1 : i ≤ cap) (h2 : cap ≤ 9223372036854775807) (h3 : ∀ r, r < y.len → rowOK y.c r) (h4 : ∀ r, r < y.len → same c y.c r) : SvInv (sv0 y.len cap c) :=
  ⟨h64, ⟨by show y.len ≤ cap; omega, h2⟩, fun r hr => by
    have h5 := rowOK_out (h3 r hr)
    have h6 := same_out (h4 r hr)
    show c.ga r < 0 ∧ c.ra r < 0
    obtain ⟨_, _, _, _, _, _, _, _, _, e1, _, _, _, e2⟩ := h6
    rw [e1, e2]; omega⟩
section
attribute [local irreducible] anyAlt enter newOK rowOK same
set_option maxHeartbeats 8000000 in
theorem new_runs (y : SI) (hp : obp (some (Sw y))) (now : Int) : Runs (cxNew y) Try.f8 [.one (.a (.slc 0 14 0 y.len y.cap)), .one (.a (.slc 1 0 0 0 0)), .one (.a (.slc 2 0 0 0 0)), int_ .i64 now] (newM y) fun v m => ghosted (newGs y) v m fun v m => anyAlt (newM y) (newRen v) v m (newAlts y) := by
  obtain ⟨w1, w2, w3⟩ : Sw y := hp
  repeat' (first | with_reducible exact trivial | with_reducible exact rfl | with_reducible exact Nat.le_refl _ | with_reducible exact (fun _ _ => rfl) | ((conv => whnf); first | (refine fun (x : NX) => ?_) | (refine fun (y : Int) => ?_) | (refine fun (z : Unit) => ?_) | (exact fun h => absurd h (by decide)) | (intro h9; (have h8 := of_decide_eq_true (p := type_of% h9) (by decide)); clear h8 h9) | (refine fun _ => ?_) | refine ⟨?_, ?_⟩ | exact trivial | exact Nat.le_refl _ | exact lex_q (by kernel_rfl) | exact lex_t (by kernel_rfl) | exact lex_h (by kernel_rfl) | fail))
  · have hE : newE y = 4 := if_pos (by omega)
    (conv => whnf); refine alt_r ?_ (by (repeat' (first | with_reducible exact rfl | exact Nat.le_refl _ | with_reducible exact (fun _ _ => rfl) | ((conv => whnf); first | refine ⟨?_, ?_⟩ | exact trivial | fail))); first | ((all_goals ((try dsimp only [laNew] at *); (all_goals (try simp (disch := omega) only [w64', wu64', tdiv_pos, tmod_pos, Int.toNat_natCast, Nat.zero_add] at *)); (all_goals ((first | exact hE | exact hE.symm | omega))))); done) | fail); exact fun hh => by have h9 := (newOK_out hh).1; omega
  all_goals (have hE1 : newE y = 1 := if_neg (by omega))
  all_goals (try (have hw : IntKind.i64.wrap ((y.len : Int) + 1) = (y.len : Int) + 1 := w64' (by omega) (by omega)))
  all_goals (try (have hx := (by assumption : (laNew y).inv x); dsimp only [laNew] at hx; obtain ⟨⟨x1, x64⟩, ⟨x3, x4⟩, x5, x6⟩ := hx))
  all_goals (try with_reducible assumption)
  all_goals (try omega)
  · (conv => whnf); refine enter_mk (la := laC y) () ?_ (by (repeat' (first | ((conv => whnf); first | refine ⟨?_, ?_⟩ | exact trivial | fail) | (dsimp only; done) | ((try dsimp only); first | with_reducible exact rfl | exact Nat.le_refl _ | with_reducible exact (fun _ _ => rfl)))); all_goals ((first | rfl | exact fun _ _ => rfl | decide | (rw [hw]; rfl) | (rw [hw]; exact Nat.le_refl _) | omega)))
    have := (by assumption : ¬ 64 < (y.len : Int)); show y.len ≤ 64; omega
  · (conv => whnf); refine enter_mk (la := laC y) () ?_ (by (repeat' (first | ((conv => whnf); first | refine ⟨?_, ?_⟩ | exact trivial | fail) | (dsimp only; done) | ((try dsimp only); first | with_reducible exact rfl | exact Nat.le_refl _ | with_reducible exact (fun _ _ => rfl)))); all_goals ((first | rfl | exact fun _ _ => rfl | decide | (rw [hw]; rfl) | (rw [hw]; exact Nat.le_refl _) | omega)))
    have := (by assumption : ¬ 64 < (y.len : Int)); show y.len ≤ 64; omega
  · (conv => whnf); refine enter_mk (la := laNew y) ⟨0, 0, scZ⟩ ?_ (by (repeat' (first | ((conv => whnf); first | refine ⟨?_, ?_⟩ | exact trivial | fail) | (dsimp only; done) | ((try dsimp only); first | with_reducible exact rfl | exact Nat.le_refl _ | with_reducible exact (fun _ _ => rfl)))); all_goals ((first | rfl | exact fun _ _ => rfl | decide | (rw [hw]; rfl) | (rw [hw]; exact Nat.le_refl _) | omega)))
    exact ⟨⟨Nat.zero_le _, (by assumption : (laC y).inv z)⟩, ⟨Nat.zero_le _, Nat.zero_le _⟩, fun r hr => absurd hr (Nat.not_lt_zero r), fun r hr => absurd hr (Nat.not_lt_zero r)⟩
  all_goals (try (have hlt : 0 + Int.toNat (x.i : Int) < y.len := (by omega); have hx0 : 0 + Int.toNat (x.i : Int) = x.i := (by omega)))
  · (conv => whnf); refine alt_r ?_ (by (repeat' (first | with_reducible exact rfl | exact Nat.le_refl _ | with_reducible exact (fun _ _ => rfl) | ((conv => whnf); first | refine ⟨?_, ?_⟩ | exact trivial | fail))); first | ((all_goals ((try dsimp only [laNew] at *); (all_goals (try simp (disch := omega) only [w64', wu64', tdiv_pos, tmod_pos, Int.toNat_natCast, Nat.zero_add] at *)); (all_goals ((first | exact hE1 | exact hE1.symm | omega))))); done) | fail); exact fun hh => by have h9 := rowOK_out ((newOK_out hh).2 _ hlt); omega
  · (conv => whnf); refine alt_r ?_ (by (repeat' (first | with_reducible exact rfl | exact Nat.le_refl _ | with_reducible exact (fun _ _ => rfl) | ((conv => whnf); first | refine ⟨?_, ?_⟩ | exact trivial | fail))); first | ((all_goals ((try dsimp only [laNew] at *); (all_goals (try simp (disch := omega) only [w64', wu64', tdiv_pos, tmod_pos, Int.toNat_natCast, Nat.zero_add] at *)); (all_goals ((first | exact hE1 | exact hE1.symm | omega))))); done) | fail); exact fun hh => by have h9 := rowOK_out ((newOK_out hh).2 _ hlt); omega
  · (conv => whnf); refine alt_r ?_ (by (repeat' (first | with_reducible exact rfl | exact Nat.le_refl _ | with_reducible exact (fun _ _ => rfl) | ((conv => whnf); first | refine ⟨?_, ?_⟩ | exact trivial | fail))); first | ((all_goals ((try dsimp only [laNew] at *); (all_goals (try simp (disch := omega) only [w64', wu64', tdiv_pos, tmod_pos, Int.toNat_natCast, Nat.zero_add] at *)); (all_goals ((first | exact hE1 | exact hE1.symm | omega))))); done) | fail); exact fun hh => by have h9 := rowOK_out ((newOK_out hh).2 _ hlt); omega
  · (conv => whnf); refine alt_r ?_ (by (repeat' (first | with_reducible exact rfl | exact Nat.le_refl _ | with_reducible exact (fun _ _ => rfl) | ((conv => whnf); first | refine ⟨?_, ?_⟩ | exact trivial | fail))); first | ((all_goals ((try dsimp only [laNew] at *); (all_goals (try simp (disch := omega) only [w64', wu64', tdiv_pos, tmod_pos, Int.toNat_natCast, Nat.zero_add] at *)); (all_goals ((first | exact hE1 | exact hE1.symm | omega))))); done) | fail); exact fun hh => by have h9 := rowOK_out ((newOK_out hh).2 _ hlt); omega
  · (conv => whnf); refine alt_r ?_ (by (repeat' (first | with_reducible exact rfl | exact Nat.le_refl _ | with_reducible exact (fun _ _ => rfl) | ((conv => whnf); first | refine ⟨?_, ?_⟩ | exact trivial | fail))); first | ((all_goals ((try dsimp only [laNew] at *); (all_goals (try simp (disch := omega) only [w64', wu64', tdiv_pos, tmod_pos, Int.toNat_natCast, Nat.zero_add] at *)); (all_goals ((first | exact hE1 | exact hE1.symm | omega))))); done) | fail); exact fun hh => by have h9 := rowOK_out ((newOK_out hh).2 _ hlt); omega
  · (conv => whnf); refine alt_r ?_ (by (repeat' (first | with_reducible exact rfl | exact Nat.le_refl _ | with_reducible exact (fun _ _ => rfl) | ((conv => whnf); first | refine ⟨?_, ?_⟩ | exact trivial | fail))); first | ((all_goals ((try dsimp only [laNew] at *); (all_goals (try simp (disch := omega) only [w64', wu64', tdiv_pos, tmod_pos, Int.toNat_natCast, Nat.zero_add] at *)); (all_goals ((first | exact hE1 | exact hE1.symm | omega))))); done) | fail); exact fun hh => by have h9 := rowOK_out ((newOK_out hh).2 _ hlt); omega
  · (conv => whnf); refine alt_r ?_ (by (repeat' (first | with_reducible exact rfl | exact Nat.le_refl _ | with_reducible exact (fun _ _ => rfl) | ((conv => whnf); first | refine ⟨?_, ?_⟩ | exact trivial | fail))); first | ((all_goals ((try dsimp only [laNew] at *); (all_goals (try simp (disch := omega) only [w64', wu64', tdiv_pos, tmod_pos, Int.toNat_natCast, Nat.zero_add] at *)); (all_goals ((first | exact hE1 | exact hE1.symm | omega))))); done) | fail); exact fun hh => by have h9 := rowOK_out ((newOK_out hh).2 _ hlt); omega
  · (conv => whnf); refine alt_r ?_ (by (repeat' (first | with_reducible exact rfl | exact Nat.le_refl _ | with_reducible exact (fun _ _ => rfl) | ((conv => whnf); first | refine ⟨?_, ?_⟩ | exact trivial | fail))); first | ((all_goals ((try dsimp only [laNew] at *); (all_goals (try simp (disch := omega) only [w64', wu64', tdiv_pos, tmod_pos, Int.toNat_natCast, Nat.zero_add] at *)); (all_goals ((first | exact hE1 | exact hE1.symm | omega))))); done) | fail); exact fun hh => by have h9 := rowOK_out ((newOK_out hh).2 _ hlt); omega
  · (conv => whnf); refine alt_r ?_ (by (repeat' (first | with_reducible exact rfl | exact Nat.le_refl _ | with_reducible exact (fun _ _ => rfl) | ((conv => whnf); first | refine ⟨?_, ?_⟩ | exact trivial | fail))); first | ((all_goals ((try dsimp only [laNew] at *); (all_goals (try simp (disch := omega) only [w64', wu64', tdiv_pos, tmod_pos, Int.toNat_natCast, Nat.zero_add] at *)); (all_goals ((first | exact hE1 | exact hE1.symm | omega))))); done) | fail); exact fun hh => by have h9 := rowOK_out ((newOK_out hh).2 _ hlt); omega
  · (conv => whnf); refine alt_r ?_ (by (repeat' (first | with_reducible exact rfl | exact Nat.le_refl _ | with_reducible exact (fun _ _ => rfl) | ((conv => whnf); first | refine ⟨?_, ?_⟩ | exact trivial | fail))); first | ((all_goals ((try dsimp only [laNew] at *); (all_goals (try simp (disch := omega) only [w64', wu64', tdiv_pos, tmod_pos, Int.toNat_natCast, Nat.zero_add] at *)); (all_goals ((first | exact hE1 | exact hE1.symm | omega))))); done) | fail); exact fun hh => by have h9 := rowOK_out ((newOK_out hh).2 _ hlt); omega
  · (conv => whnf); refine alt_r ?_ (by (repeat' (first | with_reducible exact rfl | exact Nat.le_refl _ | with_reducible exact (fun _ _ => rfl) | ((conv => whnf); first | refine ⟨?_, ?_⟩ | exact trivial | fail))); first | ((all_goals ((try dsimp only [laNew] at *); (all_goals (try simp (disch := omega) only [w64', wu64', tdiv_pos, tmod_pos, Int.toNat_natCast, Nat.zero_add] at *)); (all_goals ((first | exact hE1 | exact hE1.symm | omega))))); done) | fail); exact fun hh => by have h9 := rowOK_out ((newOK_out hh).2 _ hlt); omega
  · (conv => whnf); refine alt_r ?_ (by (repeat' (first | with_reducible exact rfl | exact Nat.le_refl _ | with_reducible exact (fun _ _ => rfl) | ((conv => whnf); first | refine ⟨?_, ?_⟩ | exact trivial | fail))); first | ((all_goals ((try dsimp only [laNew] at *); (all_goals (try simp (disch := omega) only [w64', wu64', tdiv_pos, tmod_pos, Int.toNat_natCast, Nat.zero_add] at *)); (all_goals ((first | exact hE1 | exact hE1.symm | omega))))); done) | fail); exact fun hh => by have h9 := rowOK_out ((newOK_out hh).2 _ hlt); omega
  · have hrow : rowOK y.c (0 + Int.toNat (x.i : Int)) := rowOK_mk (by omega)
    (conv => whnf); refine enter_mk (la := laNew y) ⟨x.i + 1, _, ⟨_, _, _, _, _, _, _, _, _, _, _, _, _, _⟩⟩ ?_ (by (repeat' (first | ((conv => whnf); first | refine ⟨?_, ?_⟩ | exact trivial | fail) | (dsimp only; done) | ((try dsimp only); first | with_reducible exact rfl | exact Nat.le_refl _ | with_reducible exact (fun _ _ => rfl)))); all_goals ((first | rfl | exact fun _ _ => rfl | (show y.len - (x.i + 1) < y.len - x.i; omega) | (dsimp only; rw [w64' (by omega) (by omega)]; omega))))
    refine ⟨⟨by show x.i + 1 ≤ y.len; omega, x64⟩, ⟨by assumption, by assumption⟩, fun r hr => ?_, fun r hr => ?_⟩
    · rcases (by have hr : r < x.i + 1 := hr; omega : r < x.i ∨ r = x.i) with h9 | rfl
      · exact x5 r h9
      · rw [hx0] at hrow; exact hrow
    · by_cases hri : r < x.i
      · have h9 := same_out (x6 r hri)
        refine same_mk ?_
        dsimp only
        simp only [if_pos hri]
        exact h9
      · obtain rfl : r = x.i := by have hr : r < x.i + 1 := hr; omega
        refine same_mk ?_
        dsimp only
        simp only [Nat.lt_irrefl, if_false, Nat.lt_add_one, if_true, Nat.sub_self, Nat.zero_add, Int.toNat_natCast]
        exact ⟨rfl, rfl, rfl, rfl, rfl, rfl, rfl, rfl, rfl, rfl, rfl, rfl, rfl, rfl⟩
  · have hrow : rowOK y.c (0 + Int.toNat (x.i : Int)) := rowOK_mk (by omega)
    (conv => whnf); refine enter_mk (la := laNew y) ⟨x.i + 1, _, ⟨_, _, _, _, _, _, _, _, _, _, _, _, _, _⟩⟩ ?_ (by (repeat' (first | ((conv => whnf); first | refine ⟨?_, ?_⟩ | exact trivial | fail) | (dsimp only; done) | ((try dsimp only); first | with_reducible exact rfl | exact Nat.le_refl _ | with_reducible exact (fun _ _ => rfl)))); all_goals ((first | rfl | exact fun _ _ => rfl | (show y.len - (x.i + 1) < y.len - x.i; omega) | (dsimp only; rw [w64' (by omega) (by omega)]; omega))))
    refine ⟨⟨by show x.i + 1 ≤ y.len; omega, x64⟩, ⟨by assumption, by assumption⟩, fun r hr => ?_, fun r hr => ?_⟩
    · rcases (by have hr : r < x.i + 1 := hr; omega : r < x.i ∨ r = x.i) with h9 | rfl
      · exact x5 r h9
      · rw [hx0] at hrow; exact hrow
    · by_cases hri : r < x.i
      · have h9 := same_out (x6 r hri)
        refine same_mk ?_
        dsimp only
        simp only [if_pos hri]
        exact h9
      · obtain rfl : r = x.i := by have hr : r < x.i + 1 := hr; omega
        refine same_mk ?_
        dsimp only
        simp only [Nat.lt_irrefl, if_false, Nat.lt_add_one, if_true, Nat.sub_self, Nat.zero_add, Int.toNat_natCast]
        exact ⟨rfl, rfl, rfl, rfl, rfl, rfl, rfl, rfl, rfl, rfl, rfl, rfl, rfl, rfl⟩
  · have hrow : rowOK y.c (0 + Int.toNat (x.i : Int)) := rowOK_mk (by omega)
    (conv => whnf); refine enter_mk (la := laNew y) ⟨x.i + 1, _, ⟨_, _, _, _, _, _, _, _, _, _, _, _, _, _⟩⟩ ?_ (by (repeat' (first | ((conv => whnf); first | refine ⟨?_, ?_⟩ | exact trivial | fail) | (dsimp only; done) | ((try dsimp only); first | with_reducible exact rfl | exact Nat.le_refl _ | with_reducible exact (fun _ _ => rfl)))); all_goals ((first | rfl | exact fun _ _ => rfl | (show y.len - (x.i + 1) < y.len - x.i; omega) | (dsimp only; rw [w64' (by omega) (by omega)]; omega))))
    refine ⟨⟨by show x.i + 1 ≤ y.len; omega, x64⟩, ⟨by assumption, by assumption⟩, fun r hr => ?_, fun r hr => ?_⟩
    · rcases (by have hr : r < x.i + 1 := hr; omega : r < x.i ∨ r = x.i) with h9 | rfl
      · exact x5 r h9
      · rw [hx0] at hrow; exact hrow
    · by_cases hri : r < x.i
      · have h9 := same_out (x6 r hri)
        refine same_mk ?_
        dsimp only
        simp only [if_pos hri]
        exact h9
      · obtain rfl : r = x.i := by have hr : r < x.i + 1 := hr; omega
        refine same_mk ?_
        dsimp only
        simp only [Nat.lt_irrefl, if_false, Nat.lt_add_one, if_true, Nat.sub_self, Nat.zero_add, Int.toNat_natCast]
        exact ⟨rfl, rfl, rfl, rfl, rfl, rfl, rfl, rfl, rfl, rfl, rfl, rfl, rfl, rfl⟩
  all_goals (try (have hxi : x.i = y.len := (by omega)))
  · exact new_inv x64 (by omega) x3 x4 (fun r hr => x5 r (by omega)) (fun r hr => x6 r (by omega))
  any_goals (first | rfl | exact hxi | exact hxi.symm | exact fun _ _ => rfl | fail)
  · (conv => whnf); refine alt_lf (x.c, x.cap) ?_ (by (repeat' (first | with_reducible exact rfl | exact Nat.le_refl _ | with_reducible exact (fun _ _ => rfl) | ((conv => whnf); first | refine ⟨?_, ?_⟩ | exact trivial | fail))); first | ((all_goals ((try dsimp only [laNew] at *); (all_goals (try simp (disch := omega) only [w64', wu64', tdiv_pos, tmod_pos, Int.toNat_natCast, Nat.zero_add] at *)); (all_goals ((first | rfl | omega))))); done) | fail); exact ⟨newOK_mk ⟨x64, fun r hr => x5 r (by omega)⟩, fun r hr => x6 r (by omega), by show y.len ≤ x.cap; omega, x4⟩
end
noncomputable def newS : ESpec Try.prog := newG fn8 (.s4 Lens.strm Lens.nil Lens.nil (.int .i64)) (fun y => cxNew y.1) (fun y => some (Sw y.1)) (fun y => newAlts y.1) (fun y v m => newGs y.1 v m) (fun _ v _ => newRen v) (fun _ => rfl) (fun a al hal => by
  rcases List.mem_cons.1 hal with rfl | hal
  · exact fun _ => rfl
  · rw [List.mem_singleton.1 hal]; exact rfl) (fun a hp => new_runs a.1 hp a.2.2.2)

end Go.Proofs.Ytmhggafgdilgeaa
