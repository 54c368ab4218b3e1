/-
  Contracts of functions, and plain facts about them, that a claim of this seat uses.
-/
import Derived.Test.YtkehcpafbkmapaaSx
import Derived.Test.YtkehcpafbkmapaaGatesNum
import Derived.Test.YtkehcpafbkmapaaGatesA
import Derived.Test.YtkehcpafbkmapaaGatesB
import Derived.Test.YtkehcpafbkmapaaProg
namespace Go.Proofs.Ytkehcpafbkmapaa
open Go.Sx
set_option linter.unusedVariables false
set_option linter.unusedSimpArgs false
set_option maxRecDepth 100000

/-! lists of gates: the reference's: Check, phase, bit, and the copy that it looks at. -/
theorem fn11 : FnOf Try.prog 11 Try.f11 := ⟨Try.func11, rfl, rfl, mixed⟩
theorem fn12 : FnOf Try.prog 12 Try.f12 := ⟨Try.func12, rfl, rfl, mixed⟩
theorem fn31 : FnOf Try.prog 31 Try.f31 := ⟨Try.func31, rfl, rfl, mixed⟩
theorem fn34 : FnOf Try.prog 34 Try.f34 := ⟨Try.func34, rfl, rfl, mixed⟩
attribute [local irreducible] enter Gw
abbrev laRChk (l : GL) : LA where
  ι := Int × Int
  inv := fun y => (0 ≤ y.1 ∧ y.1 ≤ l.len) ∧ (0 ≤ y.2 ∧ y.2 ≤ l.cyc) ∧ chkFrom l.op l.ln l.cyc (l.len - y.1.toNat) y.1.toNat y.2 = chkFrom l.op l.ln l.cyc l.len 0 0
  T := fun y => ⟨68, [(1, .one (.a (.ptr 1 0))), (3, int_ .i64 y.2), (35, .one (.a (.slc 0 2 0 l.len l.cap))), (36, int_ .i64 l.len), (37, int_ .i64 y.1)], [roG l, some ⟨true, .flat (glCells 0 l)⟩]⟩
  μ := fun y => (l.len - y.1).toNat
  ren := fun S => [0, S.ix 1]
noncomputable def cxRChk (l : GL) : Cx Try.prog := { ps := [], es := [], is := [], n0 := 1, loops := fun i => match i with | 7 => some (.inv (laRChk l)) | _ => none, cuts := fun _ => none }
set_option maxHeartbeats 8000000 in
theorem rchk_runs (l : GL) (hp : obp (some (Gw l))) : Runs (cxRChk l) Try.f11 [G1 0 l] [roG l] fun v _ => isRes (int_ .i64 (chk l)) v := by
  have hw : Gw l := hp
  obtain ⟨hb, hc, h1, h2, h3, h4⟩ := hw.out
  unfold I64 at *
  repeat' (first | with_reducible exact trivial | with_reducible exact rfl | with_reducible exact Nat.le_refl _ | with_reducible exact (fun _ _ => rfl) | ((conv => whnf); first | (refine fun (x : Int × Int) => ?_) | (refine fun _ => ?_) | refine ⟨?_, ?_⟩ | exact trivial | exact Nat.le_refl _ | exact lex_q (by kernel_rfl) | exact lex_t (by kernel_rfl) | exact lex_h (by kernel_rfl) | fail))
  any_goals (refine enter_mk (la := laRChk l) (_, _) ?_ (by (repeat' (first | ((conv => whnf); first | refine ⟨?_, ?_⟩ | exact trivial | fail) | (dsimp only; done) | ((try dsimp only); first | with_reducible exact rfl | exact Nat.le_refl _ | with_reducible exact (fun _ _ => rfl)))); first | ((all_goals ((try dsimp only [laRChk] at *); (all_goals (try simp (disch := omega) only [w64', wu64', tdiv_pos, tmod_pos, Int.toNat_natCast, Nat.zero_add] at *)); (all_goals ((try omega))))); done) | fail))
  all_goals (try dsimp only [laRChk] at *)
  all_goals (try simp (disch := omega) only [fdiv_nn, Int.reduceToNat, IntKind.bits, Nat.min_def, Nat.reduceLeDiff, if_true, if_false, Int.reducePow, wu8, wu32, w64', wu64', tdiv_pos, tmod_pos, Int.toNat_natCast, Nat.zero_add] at *)
  all_goals (try omega)
  all_goals first
    | (unfold chk; rw [if_pos (by omega)]; done)
    | (unfold chk; rw [if_neg (by omega), if_pos (by omega)]; done)
    | exact ⟨by omega, by omega, rfl⟩
    | (have hx := (by assumption : (0 ≤ x.1 ∧ _) ∧ _)
       obtain ⟨i1, i2, i3⟩ := hx
       have hch : chk l = chkFrom l.op l.ln l.cyc l.len 0 0 := by unfold chk; rw [if_neg (by omega), if_neg (by omega)]
       first
       | (rw [hch, ← i3, show l.len - x.1.toNat = 0 by omega]; rfl)
       | (have hs := h4 x.1.toNat (by omega)
          rw [chk_step (by omega)] at i3
          first
          | (rw [if_pos (by omega)] at i3
             rw [hch]; exact i3.symm)
          | (rw [if_neg (by omega)] at i3
             rw [w64' (by omega) (by omega)] at *
             first
             | (rw [if_pos (by omega)] at i3
                rw [hch]; exact i3.symm)
             | (rw [if_neg (by omega)] at i3
                rw [show (x.1 + 1).toNat = x.1.toNat + 1 by omega]
                exact ⟨by omega, by omega, i3⟩))))
noncomputable def rchkS : PSpec Try.prog := readN fn11 (.s1 Lens.gl) cxRChk (fun l => some (Gw l)) (fun l => int_ .i64 (chk l)) (fun _ => rfl) (fun _ => rfl) (fun _ => rfl) rchk_runs
noncomputable def cxRPh : Cx Try.prog := { ps := [], es := [], is := [], n0 := 1, loops := fun i => match i with | 4 => some (.rounds 2) | _ => none, cuts := fun _ => none }
set_option maxHeartbeats 8000000 in
theorem rph_runs (x : GL × Int) (hp : obp (some (Gw x.1 ∧ chk x.1 = 0 ∧ Tm x.2))) : Runs cxRPh Try.f31 [G1 0 x.1, int_ .i64 x.2] [roG x.1] fun v _ => isRes (int_ .i64 (phV x.1 x.2)) v := by
  obtain ⟨l, a⟩ := x
  obtain ⟨hw, ho, ht⟩ : Gw l ∧ chk l = 0 ∧ Tm a := hp
  have ok := chk_ok ho
  obtain ⟨o1, o2, o3, o4, o5, o6⟩ : _ ∧ _ ∧ _ ∧ _ ∧ _ ∧ _ := ⟨ok.n1, ok.n2, ok.c1, ok.c2, ok.b1, ok.b2⟩
  unfold Tm at ht
  have tt := tm_at (s := a - l.base) (g := l.cyc) (by omega)
  have e1 := Int.emod_nonneg (a - l.base) (show l.cyc ≠ 0 by omega)
  have e2 := Int.emod_lt_of_pos (a - l.base) (show 0 < l.cyc by omega)
  have e3 := Int.tmod_lt_of_pos (a - l.base) (show 0 < l.cyc by omega)
  have e4 := Int.lt_tmod_of_pos (a - l.base) (show 0 < l.cyc by omega)
  have e5 : phV l a = (a - l.base) % l.cyc := rfl
  have em := Int.tmod_add_mul_tdiv (a - l.base) l.cyc
  have w1 : IntKind.i64.wrap (a - l.base) = a - l.base := w64' (by omega) (by omega)
  have eq : Int.tdiv (a - l.base) l.cyc * l.cyc = (a - l.base) - Int.tmod (a - l.base) l.cyc := by rw [Int.mul_comm]; omega
  have w2 : IntKind.i64.wrap (Int.tdiv (a - l.base) l.cyc * l.cyc) = (a - l.base) - Int.tmod (a - l.base) l.cyc := by rw [eq]; exact w64' (by omega) (by omega)
  repeat' (first | with_reducible exact trivial | with_reducible exact rfl | with_reducible exact Nat.le_refl _ | with_reducible exact (fun _ _ => rfl) | ((conv => whnf); first | (refine fun _ => ?_) | refine ⟨?_, ?_⟩ | exact trivial | exact Nat.le_refl _ | exact lex_q (by kernel_rfl) | exact lex_t (by kernel_rfl) | exact lex_h (by kernel_rfl) | fail))
  all_goals (try dsimp only at *)
  all_goals (try simp only [w1, w2] at *)
  all_goals
    have q1 : -9223372036854775808 ≤ Int.tdiv (a - l.base) l.cyc ∧ Int.tdiv (a - l.base) l.cyc ≤ 9223372036854775807 := by
      generalize Int.tdiv (a - l.base) l.cyc = t at *
      generalize Int.tmod (a - l.base) l.cyc = m at *
      rcases Int.le_total 0 t with h9 | h9
      · have := Int.mul_le_mul_of_nonneg_left o3 h9
        omega
      · have := Int.mul_le_mul_of_nonneg_left o3 (show 0 ≤ -t by omega)
        rw [Int.neg_mul, Int.neg_mul] at this
        omega
    have w3 : IntKind.i64.wrap (Int.tdiv (a - l.base) l.cyc) = Int.tdiv (a - l.base) l.cyc := w64' q1.1 q1.2
    have w4 : IntKind.i64.wrap (Int.tdiv (a - l.base) l.cyc * l.cyc) = (a - l.base) - Int.tmod (a - l.base) l.cyc := by rw [eq]; exact w64' (by omega) (by omega)
    have w5 : (a - l.base) - ((a - l.base) - Int.tmod (a - l.base) l.cyc) = Int.tmod (a - l.base) l.cyc := by omega
    have w6 : IntKind.i64.wrap (Int.tmod (a - l.base) l.cyc) = Int.tmod (a - l.base) l.cyc := w64' (by omega) (by omega)
    have w7 : IntKind.i64.wrap (Int.tmod (a - l.base) l.cyc + l.cyc) = Int.tmod (a - l.base) l.cyc + l.cyc := w64' (by omega) (by omega)
    simp only [w3, w4, w5, w6, w7] at *
    omega
noncomputable def rphS : PSpec Try.prog := readN fn31 (.s2 Lens.gl (.int .i64)) (fun _ => cxRPh) (fun x => some (Gw x.1 ∧ chk x.1 = 0 ∧ Tm x.2)) (fun x => int_ .i64 (phV x.1 x.2)) (fun _ => rfl) (fun _ => rfl) (fun _ => rfl) rph_runs
abbrev laBit (s k : Int) : LA where
  ι := Int × Int
  inv := fun y => (0 ≤ y.1 ∧ y.1 ≤ k) ∧ y.2 = s / 2 ^ y.1.toNat ∧ (0 ≤ y.2 ∧ y.2 ≤ 255)
  T := fun y => ⟨16, [(0, int_ .i64 y.2), (1, int_ .i64 k), (5, int_ .i64 y.1)], []⟩
  μ := fun y => (k - y.1).toNat
  ren := fun _ => []
noncomputable def cxBit (x : Int × Int) : Cx Try.prog := { ps := [], es := [], is := [], n0 := 0, loops := fun i => match i with | 2 => some (.inv (laBit x.1 x.2)) | _ => none, cuts := fun _ => none }
set_option maxHeartbeats 8000000 in
theorem bit_runs (x : Int × Int) (hp : obp (some ((0 ≤ x.1 ∧ x.1 ≤ 255) ∧ gateR x.2))) : Runs (cxBit x) Try.f34 [int_ .i64 x.1, int_ .i64 x.2] [] fun v _ => isRes (.one (.a (.v (.bool (decide (x.1 / 2 ^ x.2.toNat % 2 = 1)))))) v := by
  obtain ⟨s, k⟩ := x
  obtain ⟨hs, hk⟩ : (0 ≤ s ∧ s ≤ 255) ∧ gateR k := hp
  unfold gateR at hk
  repeat' (first | with_reducible exact trivial | with_reducible exact rfl | with_reducible exact Nat.le_refl _ | with_reducible exact (fun _ _ => rfl) | ((conv => whnf); first | (refine fun (x : Int × Int) => ?_) | (refine fun _ => ?_) | refine ⟨?_, ?_⟩ | exact trivial | exact Nat.le_refl _ | exact lex_q (by kernel_rfl) | exact lex_t (by kernel_rfl) | exact lex_h (by kernel_rfl) | fail))
  any_goals (refine enter_mk (la := laBit s k) (_, _) ?_ (by (repeat' (first | ((conv => whnf); first | refine ⟨?_, ?_⟩ | exact trivial | fail) | (dsimp only; done) | ((try dsimp only); first | with_reducible exact rfl | exact Nat.le_refl _ | with_reducible exact (fun _ _ => rfl)))); first | ((all_goals ((try dsimp only [laBit] at *); (all_goals (try simp (disch := omega) only [w64', wu64', tdiv_pos, tmod_pos, Int.toNat_natCast, Nat.zero_add] at *)); (all_goals ((try omega))))); done) | fail))
  all_goals (try dsimp only [laBit] at *)
  all_goals (try simp (disch := omega) only [fdiv_nn, Int.reduceToNat, IntKind.bits, Nat.min_def, Nat.reduceLeDiff, if_true, if_false, Int.reducePow, wu8, wu32, w64', wu64', tdiv_pos, tmod_pos, Int.toNat_natCast, Nat.zero_add] at *)
  all_goals first
    | exact ⟨by omega, by simp, by omega⟩
    | (have hx := (by assumption : (0 ≤ x.1 ∧ _) ∧ _)
       obtain ⟨i1, i2, i3⟩ := hx
       refine ⟨by omega, ?_, by omega⟩
       rw [show (x.1 + 1).toNat = x.1.toNat + 1 by omega, Int.pow_succ, ← Int.ediv_ediv_of_nonneg (by exact Int.le_of_lt (Int.pow_pos (by decide))), ← i2])
    | (have hx := (by assumption : (0 ≤ x.1 ∧ _) ∧ _)
       obtain ⟨i1, i2, i3⟩ := hx
       rw [i2, show x.1 = k by omega])
noncomputable def bitS : PSpec Try.prog := readN fn34 (.s2 (.int .i64) (.int .i64)) cxBit (fun x => some ((0 ≤ x.1 ∧ x.1 ≤ 255) ∧ gateR x.2)) (fun x => .one (.a (.v (.bool (decide (x.1 / 2 ^ x.2.toNat % 2 = 1)))))) (fun _ => rfl) (fun _ => rfl) (fun _ => rfl) bit_runs
theorem alt_l {m0 : Mem} {ρ : List Nat} {v : SV} {m : Mem} {p : Prop} {v2 : SV} {m2 : Mem} {b : Alt} {l : List Alt} (hp : p) (h : altOne m0 ρ v m v2 m2) : anyAlt m0 ρ v m (.cond p v2 m2 :: b :: l) := .inl ⟨hp, h⟩
theorem alt_r {m0 : Mem} {ρ : List Nat} {v : SV} {m : Mem} {a b : Alt} {l : List Alt} (h : anyAlt m0 ρ v m (b :: l)) : anyAlt m0 ρ v m (a :: b :: l) := .inr h
/-- new memory with n slots -/
structure CL where
  cap : Nat
  op : Nat → Int
  ln : Nat → Int
def CS (n : Nat) (l : GL) (y : CL) : Prop := n ≤ y.cap ∧ y.cap ≤ 9223372036854775807 ∧ ∀ r, r < n → y.op r = l.op r ∧ y.ln r = l.ln r
theorem CS.out {n : Nat} {l : GL} {y : CL} (h : CS n l y) : n ≤ y.cap ∧ y.cap ≤ 9223372036854775807 ∧ ∀ r, r < n → y.op r = l.op r ∧ y.ln r = l.ln r := h
def rwS (y : CL) : Option Reg := some ⟨true, .tab y.cap [.int .i64 y.op, .int .i64 y.ln]⟩
def nilC (l : GL) : List SA := [.v (.int .i64 l.base), .v (.int .i64 l.cyc), .v (.slice none 0 0)]
def cpC (j : Nat) (n : Nat) (l : GL) (y : CL) : List SA := [.v (.int .i64 l.base), .v (.int .i64 l.cyc), .slc j 2 0 n y.cap]
def plainA (l : GL) : List Alt := [.cond (l.len = 0) (.one (.agg (nilC l))) [roG l], .fam CL (fun y => l.len ≠ 0 ∧ CS l.len l y) (fun y => .one (.agg (cpC 1 l.len l y))) (fun y => [roG l, rwS y])]
def plRen (v : SV) : List Nat := match v with | .one (.agg [_, _, .slc i _ _ _ _]) => [0, i] | _ => [0]
theorem app_at {n : Nat} {f g p q s t : Nat → Int} {a b : Int} (h : ∀ r, r < n → f r = p r ∧ g r = q r) {r : Nat} (hr : r < n + 1) (ha : a = p n := by rfl) (hb : b = q n := by rfl) :
    (if r < n then f r else if r < n + 1 then [a].getD (r - n) 0 else s r) = p r ∧ (if r < n then g r else if r < n + 1 then [b].getD (r - n) 0 else t r) = q r := by
  rcases Nat.lt_or_ge r n with h9 | h9
  · rw [if_pos h9, if_pos h9]; exact h r h9
  · obtain rfl : r = n := by omega
    rw [if_neg (Nat.lt_irrefl r), if_pos hr, if_neg (Nat.lt_irrefl r), if_pos hr, Nat.sub_self]; exact ⟨ha, hb⟩
structure PY where
  i : Nat
  y : CL
abbrev laPlain (l : GL) : LA where
  ι := Option PY
  inv := fun o => match o with | none => True | some x => 1 ≤ x.i ∧ x.i ≤ l.len ∧ CS x.i l x.y
  T := fun o => match o with
    | none => ⟨26, [(1, .one (.a (.ptr 1 0))), (2, .one (.a (.ptr 2 0))), (3, .one (.a (.ptr 3 0))), (12, .one (.a (.slc 0 2 0 l.len l.cap))), (13, int_ .i64 l.len), (14, int_ .i64 0)], [roG l, some ⟨true, .flat (glCells 0 l)⟩, some ⟨true, .flat [.v (.int .i64 0), .v (.int .i64 0), .v (.slice none 0 0)]⟩, some ⟨true, .flat (nilC l)⟩]⟩
    | some x => ⟨26, [(1, .one (.a (.ptr 1 0))), (2, .one (.a (.ptr 2 0))), (3, .one (.a (.ptr 3 0))), (12, .one (.a (.slc 0 2 0 l.len l.cap))), (13, int_ .i64 l.len), (14, int_ .i64 x.i)], [roG l, some ⟨true, .flat (glCells 0 l)⟩, some ⟨true, .flat [.v (.int .i64 0), .v (.int .i64 0), .v (.slice none 0 0)]⟩, some ⟨true, .flat (cpC 4 x.i l x.y)⟩, rwS x.y]⟩
  μ := fun o => match o with | none => l.len + 1 | some x => l.len - x.i
  ren := fun S => match S.t.get 22 with | some v => [0, S.ix 1, S.ix 2, S.ix 3, v.ix] | none => [0, S.ix 1, S.ix 2, S.ix 3]
attribute [local irreducible] anyAlt
noncomputable def cxPlain (l : GL) : Cx Try.prog := { ps := [], es := [], is := [], n0 := 1, loops := fun i => match i with | 3 => some (.inv (laPlain l)) | _ => none, cuts := fun _ => none }
set_option maxHeartbeats 8000000 in
theorem plain_runs (l : GL) (hp : obp (some (Gw l ∧ l.len ≤ 100))) : Runs (cxPlain l) Try.f12 [G1 0 l] [roG l] fun v m => anyAlt [roG l] (plRen v) v m (plainA l) := by
  obtain ⟨hw, hl⟩ : Gw l ∧ l.len ≤ 100 := hp
  obtain ⟨hb, hc, h1, h2, h3, h4⟩ := hw.out
  unfold I64 at *
  repeat' (first | with_reducible exact trivial | with_reducible exact rfl | with_reducible exact Nat.le_refl _ | with_reducible exact (fun _ _ => rfl) | ((conv => whnf); first | ((refine fun (x : Option PY) => ?_); rcases x with _ | x) | (refine fun _ => ?_) | refine ⟨?_, ?_⟩ | exact trivial | exact Nat.le_refl _ | exact lex_q (by kernel_rfl) | exact lex_t (by kernel_rfl) | exact lex_h (by kernel_rfl) | fail))
  any_goals first
    | (refine enter_mk (la := laPlain l) none ?_ (by (repeat' (first | ((conv => whnf); first | refine ⟨?_, ?_⟩ | exact trivial | fail) | (dsimp only; done) | ((try dsimp only); first | with_reducible exact rfl | exact Nat.le_refl _ | with_reducible exact (fun _ _ => rfl)))); first | ((all_goals ((try dsimp only [laPlain] at *); (all_goals (try simp (disch := omega) only [w64', wu64', tdiv_pos, tmod_pos, Int.toNat_natCast, Nat.zero_add] at *)); (all_goals (omega)))); done) | fail))
    | (refine enter_mk (la := laPlain l) (some ⟨x.i + 1, ⟨_, _, _⟩⟩) ?_ (by (repeat' (first | ((conv => whnf); first | refine ⟨?_, ?_⟩ | exact trivial | fail) | (dsimp only; done) | ((try dsimp only); first | with_reducible exact rfl | exact Nat.le_refl _ | with_reducible exact (fun _ _ => rfl)))); first | ((all_goals ((try dsimp only [laPlain] at *); (all_goals (try simp (disch := omega) only [w64', wu64', tdiv_pos, tmod_pos, Int.toNat_natCast, Nat.zero_add] at *)); (all_goals ((first | omega | (rw [w64' (by omega) (by omega)]; omega)))))); done) | fail))
    | (refine enter_mk (la := laPlain l) (some ⟨1, ⟨_, _, _⟩⟩) ?_ (by (repeat' (first | ((conv => whnf); first | refine ⟨?_, ?_⟩ | exact trivial | fail) | (dsimp only; done) | ((try dsimp only); first | with_reducible exact rfl | exact Nat.le_refl _ | with_reducible exact (fun _ _ => rfl)))); first | ((all_goals ((try dsimp only [laPlain] at *); (all_goals (try simp (disch := omega) only [w64', wu64', tdiv_pos, tmod_pos, Int.toNat_natCast, Nat.zero_add] at *)); (all_goals ((first | omega | rfl))))); done) | fail))
    | (refine alt_l ?_ (by (repeat' (first | with_reducible exact rfl | exact Nat.le_refl _ | with_reducible exact (fun _ _ => rfl) | ((conv => whnf); first | refine ⟨?_, ?_⟩ | exact trivial | fail))); first | ((all_goals ((try dsimp only [id] at *); (all_goals (try simp (disch := omega) only [w64', wu64', tdiv_pos, tmod_pos, Int.toNat_natCast, Nat.zero_add] at *)); (all_goals (omega)))); done) | fail))
    | (refine alt_r (alt_fam (α := CL) ⟨_, _, _⟩ ?_ (by (repeat' (first | with_reducible exact rfl | exact Nat.le_refl _ | with_reducible exact (fun _ _ => rfl) | ((conv => whnf); first | refine ⟨?_, ?_⟩ | exact trivial | fail))); first | ((all_goals ((try dsimp only [id] at *); (all_goals (try simp (disch := omega) only [w64', wu64', tdiv_pos, tmod_pos, Int.toNat_natCast, Nat.zero_add] at *)); (all_goals (omega)))); done) | fail)))
  all_goals (try dsimp only [laPlain] at *)
  all_goals (try simp (disch := omega) only [fdiv_nn, Int.reduceToNat, IntKind.bits, Nat.min_def, Nat.reduceLeDiff, if_true, if_false, Int.reducePow, wu8, wu32, w64', wu64', tdiv_pos, tmod_pos, Int.toNat_natCast, Nat.zero_add] at *)
  all_goals (try omega)
  all_goals (try (have hx := (by assumption : 1 ≤ x.i ∧ _); obtain ⟨g1, g2, g3, g4, g5⟩ := hx))
  all_goals first
    | exact g3
    | exact g4
    | (refine ⟨trivial, by omega, by assumption, by assumption, fun r hr => ?_⟩
       obtain rfl : r = 0 := by omega
       exact ⟨rfl, rfl⟩)
    | (refine ⟨trivial, by omega, by assumption, by assumption, fun r hr => ?_⟩
       exact app_at g5 hr)
    | (refine ⟨by omega, ?_⟩
       rw [show l.len = x.i by omega]
       exact ⟨g3, g4, g5⟩)
noncomputable def plainS : ESpec Try.prog := newN fn12 (.s1 Lens.gl) cxPlain (fun l => some (Gw l ∧ l.len ≤ 100)) plainA (fun _ v _ => plRen v) (fun _ => rfl) (fun x a ha => by
  rcases List.mem_cons.1 ha with rfl | ha
  · exact rfl
  · rw [List.mem_singleton.1 ha]; exact fun _ => rfl) plain_runs

end Go.Proofs.Ytkehcpafbkmapaa
