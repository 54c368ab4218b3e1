/-
  Contracts of functions, and plain facts about them, that a claim of this seat uses.
-/
import Derived.Test.YtnkmfkongmijfaaSx
import Derived.Test.YtnkmfkongmijfaaFdbL
import Derived.Test.YtnkmfkongmijfaaFdbC
import Derived.Test.YtnkmfkongmijfaaProg
namespace Go.Proofs.Ytnkmfkongmijfaa
open Go.Sx
set_option linter.unusedVariables false
set_option linter.unusedSimpArgs false
set_option maxRecDepth 100000

/-! fdb: the reference's small functions: Has, all, both, vlan, find. -/
theorem fn31 : FnOf Try.prog 31 Try.f31 := ⟨Try.func31, rfl, rfl, mixed⟩
theorem fn32 : FnOf Try.prog 32 Try.f32 := ⟨Try.func32, rfl, rfl, mixed⟩
theorem fn33 : FnOf Try.prog 33 Try.f33 := ⟨Try.func33, rfl, rfl, mixed⟩
theorem fn35 : FnOf Try.prog 35 Try.f35 := ⟨Try.func35, rfl, rfl, mixed⟩
theorem fn36 : FnOf Try.prog 36 Try.f36 := ⟨Try.func36, rfl, rfl, mixed⟩
/-- halved so often -/
def hv (s : Int) : Nat → Int
  | 0 => s
  | k + 1 => IntKind.i64.wrap (Int.tdiv (hv s k) 2)
def hasB (s a : Int) : Bool := decide (Int.tmod (hv s a.toNat) 2 = 1)
abbrev laHs (s k : Int) : LA where
  ι := Nat
  inv := fun y => y ≤ k.toNat
  T := fun y => ⟨16, [(0, int_ .i64 (hv s y)), (1, int_ .i64 k), (5, int_ .i64 y)], []⟩
  μ := fun y => k.toNat - y
  ren := fun _ => []
noncomputable def cxHs (x : Int × Int) : Cx Try.prog := { ps := [], es := [], is := [], n0 := 0, loops := fun i => match i with | 2 => some (.inv (laHs x.1 x.2)) | _ => none, cuts := fun _ => none }
section
attribute [local irreducible] enter anyAlt Lex HeldOK
set_option maxHeartbeats 8000000 in
theorem hs_runs (x : Int × Int) (hp : obp (some (x.2 ≤ 4096))) : Runs (cxHs x) Try.f35 [int_ .i64 x.1, int_ .i64 x.2] [] fun v _ => isRes (.one (.a (b_ (hasB x.1 x.2)))) v := by
  obtain ⟨s, k⟩ := x
  have hk : k ≤ 4096 := hp
  dsimp only at *
  repeat' (first | with_reducible exact trivial | with_reducible exact rfl | with_reducible exact Nat.le_refl _ | with_reducible exact (fun _ _ => rfl) | ((conv => whnf); first | (refine fun (x : Nat) => ?_) | (refine fun _ => ?_) | refine ⟨?_, ?_⟩ | exact trivial | exact Nat.le_refl _ | exact lex_q (by kernel_rfl) | exact lex_t (by kernel_rfl) | exact lex_h (by kernel_rfl) | fail))
  any_goals first
    | (refine enter_mk (la := laHs s k) 0 ?_ (by (repeat' (first | ((conv => whnf); first | refine ⟨?_, ?_⟩ | exact trivial | fail) | (dsimp only; done) | ((try dsimp only); first | with_reducible exact rfl | exact Nat.le_refl _ | with_reducible exact (fun _ _ => rfl)))); first | ((all_goals ((try dsimp only [laHs] at *); (all_goals (try simp (disch := omega) only [w64', wu64', tdiv_pos, tmod_pos, Int.toNat_natCast, Nat.zero_add] at *)); (all_goals ((first | rfl | omega))))); done) | fail))
    | (refine enter_mk (la := laHs s k) (x + 1) ?_ (by (repeat' (first | ((conv => whnf); first | refine ⟨?_, ?_⟩ | exact trivial | fail) | (dsimp only; done) | ((try dsimp only); first | with_reducible exact rfl | exact Nat.le_refl _ | with_reducible exact (fun _ _ => rfl)))); first | ((all_goals ((try dsimp only [laHs] at *); (all_goals (try simp (disch := omega) only [w64', wu64', tdiv_pos, tmod_pos, Int.toNat_natCast, Nat.zero_add] at *)); (all_goals ((first | rfl | omega | (rw [w64' (by omega) (by omega)]; omega)))))); done) | fail))
    | skip
  all_goals (try dsimp only [laHs] at *)
  all_goals (try omega)
  all_goals (have hi := (by assumption : x ≤ k.toNat); unfold hasB; rw [show k.toNat = x by omega])
noncomputable def hasS : PSpec Try.prog := readN fn35 (.s2 (.int .i64) (.int .i64)) cxHs (fun x => some (x.2 ≤ 4096)) (fun x => .one (.a (b_ (hasB x.1 x.2)))) (fun _ => rfl) (fun _ => rfl) (fun _ => rfl) hs_runs
def allN (n : Int) : Int := 2 ^ n.toNat - 1
theorem pow_8 {k : Nat} (h : k ≤ 8) : 1 ≤ (2 : Int) ^ k ∧ (2 : Int) ^ k ≤ 256 := by
  rcases (by omega : k = 0 ∨ k = 1 ∨ k = 2 ∨ k = 3 ∨ k = 4 ∨ k = 5 ∨ k = 6 ∨ k = 7 ∨ k = 8) with rfl | rfl | rfl | rfl | rfl | rfl | rfl | rfl | rfl <;> decide
abbrev laAll (n : Int) : LA where
  ι := Nat
  inv := fun y => y ≤ n.toNat
  T := fun y => ⟨14, [(0, int_ .i64 n), (3, int_ .i64 (2 ^ y)), (4, int_ .i64 y)], []⟩
  μ := fun y => n.toNat - y
  ren := fun _ => []
noncomputable def cxAll (n : Int) : Cx Try.prog := { ps := [], es := [], is := [], n0 := 0, loops := fun i => match i with | 3 => some (.inv (laAll n)) | _ => none, cuts := fun _ => none }
set_option maxHeartbeats 8000000 in
theorem all_runs (n : Int) (hp : obp (some (0 ≤ n ∧ n ≤ 8))) : Runs (cxAll n) Try.f31 [int_ .i64 n] [] fun v _ => isRes (int_ .i64 (allN n)) v := by
  have hk : 0 ≤ n ∧ n ≤ 8 := hp
  have pn := fun (k : Nat) (h : k ≤ 8) => pow_8 h
  repeat' (first | with_reducible exact trivial | with_reducible exact rfl | with_reducible exact Nat.le_refl _ | with_reducible exact (fun _ _ => rfl) | ((conv => whnf); first | (refine fun (x : Nat) => ?_) | (refine fun _ => ?_) | refine ⟨?_, ?_⟩ | exact trivial | exact Nat.le_refl _ | exact lex_q (by kernel_rfl) | exact lex_t (by kernel_rfl) | exact lex_h (by kernel_rfl) | fail))
  any_goals first
    | (refine enter_mk (la := laAll n) 0 ?_ (by (repeat' (first | ((conv => whnf); first | refine ⟨?_, ?_⟩ | exact trivial | fail) | (dsimp only; done) | ((try dsimp only); first | with_reducible exact rfl | exact Nat.le_refl _ | with_reducible exact (fun _ _ => rfl)))); first | ((all_goals ((try dsimp only [laAll] at *); (all_goals (try simp (disch := omega) only [w64', wu64', tdiv_pos, tmod_pos, Int.toNat_natCast, Nat.zero_add] at *)); (all_goals ((first | rfl | omega))))); done) | fail))
    | (refine enter_mk (la := laAll n) (x + 1) ?_ (by (repeat' (first | ((conv => whnf); first | refine ⟨?_, ?_⟩ | exact trivial | fail) | (dsimp only; done) | ((try dsimp only); first | with_reducible exact rfl | exact Nat.le_refl _ | with_reducible exact (fun _ _ => rfl)))); first | ((all_goals ((try dsimp only [laAll] at *); (all_goals (try simp (disch := omega) only [w64', wu64', tdiv_pos, tmod_pos, Int.toNat_natCast, Nat.zero_add] at *)); (all_goals ((first | rfl | omega | (rw [w64' (by omega) (by omega)]; omega) | (have h9 := pow_8 (k := x) (by omega); rw [w64' (by omega) (by omega), Int.pow_succ]; omega)))))); done) | fail))
    | skip
  all_goals (try dsimp only [laAll] at *)
  all_goals (try omega)
  all_goals (have hi := (by assumption : x ≤ n.toNat); have h9 := pow_8 (k := x) (by omega); unfold allN; rw [show n.toNat = x by omega, w64' (by omega) (by omega)])
noncomputable def allS : PSpec Try.prog := readN fn31 (.s1 (.int .i64)) cxAll (fun n => some (0 ≤ n ∧ n ≤ 8)) (fun n => int_ .i64 (allN n)) (fun _ => rfl) (fun _ => rfl) (fun _ => rfl) all_runs
/-- the bits of both, up to k -/
def boX (a b : Int) : Nat → Int
  | 0 => 0
  | k + 1 => if hasB a k = true ∧ hasB b k = true then boX a b k + 2 ^ k else boX a b k
theorem boX_bd (a b : Int) : ∀ k, 0 ≤ boX a b k ∧ boX a b k < 2 ^ k
  | 0 => ⟨Int.le_refl _, (by decide : (0 : Int) < 1)⟩
  | k + 1 => by
    have := boX_bd a b k
    unfold boX
    rw [Int.pow_succ]
    split <;> omega
abbrev laBo (a b : Int) : LA where
  ι := Nat
  inv := fun y => y ≤ 8
  T := fun y => ⟨26, [(0, int_ .i64 a), (1, int_ .i64 b), (5, int_ .i64 (boX a b y)), (6, int_ .i64 (2 ^ y)), (7, int_ .i64 y)], []⟩
  μ := fun y => 8 - y
  ren := fun _ => []
theorem boX_t {a b : Int} {k : Nat} (h : hasB a (k : Int) = true) (h2 : hasB b (k : Int) = true) : boX a b (k + 1) = boX a b k + 2 ^ k := if_pos ⟨h, h2⟩
theorem boX_a {a b : Int} {k : Nat} (h : hasB a (k : Int) = false) : boX a b (k + 1) = boX a b k := if_neg fun h9 => absurd (h9.1.symm.trans h) (by decide)
theorem boX_b {a b : Int} {k : Nat} (h : hasB b (k : Int) = false) : boX a b (k + 1) = boX a b k := if_neg fun h9 => absurd (h9.2.symm.trans h) (by decide)
theorem bo_w {a b : Int} {k : Nat} (h : (k : Int) < 8) : IntKind.i64.wrap (boX a b k + 2 ^ k) = boX a b k + 2 ^ k ∧ IntKind.i64.wrap (2 * 2 ^ k) = 2 ^ (k + 1) ∧ IntKind.i64.wrap ((k : Int) + 1) = ((k + 1 : Nat) : Int) := by
  have h9 := pow_8 (k := k) (by omega)
  have h8 := boX_bd a b k
  refine ⟨w64' (by omega) (by omega), ?_, ?_⟩
  · rw [w64' (by omega) (by omega), Int.pow_succ]; omega
  · rw [w64' (by omega) (by omega)]; omega
noncomputable def cxBo (x : Int × Int) : Cx Try.prog := { ps := [hasS], es := [], is := [], n0 := 0, loops := fun i => match i with | 4 => some (.inv (laBo x.1 x.2)) | _ => none, cuts := fun _ => none }
set_option maxHeartbeats 8000000 in
theorem bo_runs (x : Int × Int) (hp : obp none) : Runs (cxBo x) Try.f32 [int_ .i64 x.1, int_ .i64 x.2] [] fun v _ => isRes (int_ .i64 (boX x.1 x.2 8)) v := by
  obtain ⟨a, b⟩ := x
  dsimp only at *
  repeat' (first | with_reducible exact trivial | with_reducible exact rfl | with_reducible exact Nat.le_refl _ | with_reducible exact (fun _ _ => rfl) | ((conv => whnf); first | (refine fun (x : Nat) => ?_) | (refine fun _ => ?_) | refine ⟨?_, ?_⟩ | exact trivial | exact Nat.le_refl _ | exact lex_q (by kernel_rfl) | exact lex_t (by kernel_rfl) | exact lex_h (by kernel_rfl) | fail))
  any_goals first
    | (refine enter_mk (la := laBo a b) 0 ?_ (by (repeat' (first | ((conv => whnf); first | refine ⟨?_, ?_⟩ | exact trivial | fail) | (dsimp only; done) | ((try dsimp only); first | with_reducible exact rfl | exact Nat.le_refl _ | with_reducible exact (fun _ _ => rfl)))); first | ((all_goals ((try dsimp only [laBo] at *); (all_goals (try simp (disch := omega) only [w64', wu64', tdiv_pos, tmod_pos, Int.toNat_natCast, Nat.zero_add] at *)); (all_goals ((first | rfl | omega))))); done) | fail))
    | (refine enter_mk (la := laBo a b) (x + 1) ?_ (by (repeat' (first | ((conv => whnf); first | refine ⟨?_, ?_⟩ | exact trivial | fail) | (dsimp only; done) | ((try dsimp only); first | with_reducible exact rfl | exact Nat.le_refl _ | with_reducible exact (fun _ _ => rfl)))); first | ((all_goals ((try dsimp only [laBo] at *); (all_goals (try simp (disch := omega) only [w64', wu64', tdiv_pos, tmod_pos, Int.toNat_natCast, Nat.zero_add] at *)); (all_goals ((first | rfl | omega | exact (bo_w (a := a) (b := b) (by assumption)).2.1 | exact (bo_w (a := a) (b := b) (by assumption)).2.2 | exact (bo_w (a := a) (b := b) (by assumption)).2.1.symm | exact (bo_w (a := a) (b := b) (by assumption)).2.2.symm | (rw [(bo_w (a := a) (b := b) (by assumption)).1]; first | exact boX_t (by assumption) (by assumption) | exact (boX_t (by assumption) (by assumption)).symm) | exact boX_a (by assumption) | exact boX_b (by assumption) | exact (boX_a (by assumption)).symm | exact (boX_b (by assumption)).symm))))); done) | fail))
    | skip
  all_goals (try dsimp only [laBo] at *)
  all_goals (try omega)
  all_goals (try (have hi := (by assumption : x ≤ 8); rw [show x = 8 by omega]))
noncomputable def boS : PSpec Try.prog := readN fn32 (.s2 (.int .i64) (.int .i64)) cxBo (fun _ => none) (fun x => int_ .i64 (boX x.1 x.2 8)) (fun _ => rfl) (fun _ => rfl) (fun _ => rfl) bo_runs
/-- the ports of a VLAN, and those without a tag -/
def vlP (v : VC) (x : Int) : Int := cellI (fst_ [x] (vcL v)) 0
def vlB (v : VC) (x : Int) : Int := cellI (fst_ [x] (vcL v)) 1
theorem fst_yes {r : KV} {l : List KV} {k : List Int} (h : r.1 = k) : fst_ k (r :: l) = some r.2 := if_pos h
theorem fst_no {r : KV} {l : List KV} {k : List Int} (h : ¬ r.1 = k) : fst_ k (r :: l) = fst_ k l := if_neg h
abbrev laVl (x : RT) (k : Int) : LA where
  ι := Nat
  inv := fun y => y ≤ x.v.len ∧ fst_ [k] (rows (vcR x.v) (x.v.len - y) y) = fst_ [k] (vcL x.v)
  T := fun y => ⟨24, [(1, int_ .i64 k), (9, .one (.a (slV 0 x.v))), (10, int_ .i64 x.v.len), (11, int_ .i64 y)], rtM x⟩
  μ := fun y => x.v.len - y
  ren := fun _ => [0, 1, 2]
noncomputable def cxVl (x : RT × Int) : Cx Try.prog := { ps := [], es := [], is := [], n0 := 3, loops := fun i => match i with | 2 => some (.inv (laVl x.1 x.2)) | _ => none, cuts := fun _ => none }
set_option maxHeartbeats 8000000 in
theorem vl_runs (x : RT × Int) (hp : obp (some (RTw x.1))) : Runs (cxVl x) Try.f36 [.one (.agg (rt0 x.1)), int_ .i64 x.2] (rtM x.1) fun v _ => isRes (.tup [.a (i_ (vlP x.1.v x.2)), .a (i_ (vlB x.1.v x.2))]) v := by
  obtain ⟨t, k⟩ := x
  have hw : RTw t := hp
  obtain ⟨h1, h2, h3⟩ := hw.v
  dsimp only at *
  repeat' (first | with_reducible exact trivial | with_reducible exact rfl | with_reducible exact Nat.le_refl _ | with_reducible exact (fun _ _ => rfl) | ((conv => whnf); first | (refine fun (x : Nat) => ?_) | (exact fun h => absurd h (by decide)) | (intro h9; (have h8 := of_decide_eq_true (p := type_of% h9) (by decide)); clear h8 h9) | (refine fun _ => ?_) | refine ⟨?_, ?_⟩ | exact trivial | exact Nat.le_refl _ | exact lex_q (by kernel_rfl) | exact lex_t (by kernel_rfl) | exact lex_h (by kernel_rfl) | fail))
  any_goals first
    | (refine enter_mk (la := laVl t k) 0 ?_ (by (repeat' (first | ((conv => whnf); first | refine ⟨?_, ?_⟩ | exact trivial | fail) | (dsimp only; done) | ((try dsimp only); first | with_reducible exact rfl | exact Nat.le_refl _ | with_reducible exact (fun _ _ => rfl)))); first | ((all_goals ((try dsimp only [laVl] at *); (all_goals (try simp (disch := omega) only [w64', wu64', tdiv_pos, tmod_pos, Int.toNat_natCast, Nat.zero_add] at *)); (all_goals ((first | rfl | omega))))); done) | fail))
    | (refine enter_mk (la := laVl t k) (x + 1) ?_ (by (repeat' (first | ((conv => whnf); first | refine ⟨?_, ?_⟩ | exact trivial | fail) | (dsimp only; done) | ((try dsimp only); first | with_reducible exact rfl | exact Nat.le_refl _ | with_reducible exact (fun _ _ => rfl)))); first | ((all_goals ((try dsimp only [laVl] at *); (all_goals (try simp (disch := omega) only [w64', wu64', tdiv_pos, tmod_pos, Int.toNat_natCast, Nat.zero_add] at *)); (all_goals ((first | rfl | omega | (rw [w64' (by omega) (by omega)]; omega)))))); done) | fail))
    | skip
  all_goals (try dsimp only [laVl] at *)
  all_goals (try simp only [Int.toNat_natCast, Nat.zero_add] at *)
  all_goals (try omega)
  all_goals (try (have hi := (by assumption : x ≤ t.v.len ∧ fst_ [k] (rows (vcR t.v) (t.v.len - x) x) = fst_ [k] (vcL t.v)); obtain ⟨i1, i2⟩ := hi))
  all_goals (try exact ⟨Nat.zero_le _, rfl⟩)
  all_goals (try (rw [rows_end (by omega)] at i2; (first | unfold vlP | unfold vlB); rw [← i2]; rfl))
  all_goals (rw [rows_step (by omega)] at i2)
  all_goals first
    | (rw [fst_yes (show (vcR t.v x).1 = [k] from congrArg (fun z => [z]) (by assumption : t.v.g0 x = k))] at i2; (first | unfold vlP | unfold vlB); rw [← i2]; rfl)
    | (rw [fst_no (show ¬ (vcR t.v x).1 = [k] from fun h9 => absurd (List.cons.inj h9).1 (by assumption : ¬ t.v.g0 x = k))] at i2; exact ⟨by omega, i2⟩)
noncomputable def vlanS : PSpec Try.prog := readN fn36 (.s2 Lens.rt (.int .i64)) cxVl (fun x => some (RTw x.1)) (fun x => .tup [.a (i_ (vlP x.1.v x.2)), .a (i_ (vlB x.1.v x.2))]) (fun _ => rfl) (fun _ => rfl) (fun _ => rfl) vl_runs
theorem eq25 : EqOK Try.prog 25 := by unfold EqOK; kernel_rfl
theorem mac_t {v k a0 a1 a2 a3 a4 a5 b0 b1 b2 b3 b4 b5 : Int} (hv : v = k) (h : (decide (a0 = b0) && (decide (a1 = b1) && (decide (a2 = b2) && (decide (a3 = b3) && (decide (a4 = b4) && (decide (a5 = b5) && true)))))) = true) : [v, a0, a1, a2, a3, a4, a5] = [k, b0, b1, b2, b3, b4, b5] := by
  simp only [Bool.and_eq_true, decide_eq_true_eq, and_true] at h
  obtain ⟨h0, h1, h2, h3, h4, h5⟩ := h
  rw [hv, h0, h1, h2, h3, h4, h5]
theorem mac_f {v k a0 a1 a2 a3 a4 a5 b0 b1 b2 b3 b4 b5 : Int} (h : (decide (a0 = b0) && (decide (a1 = b1) && (decide (a2 = b2) && (decide (a3 = b3) && (decide (a4 = b4) && (decide (a5 = b5) && true)))))) = false) : ¬ [v, a0, a1, a2, a3, a4, a5] = [k, b0, b1, b2, b3, b4, b5] := fun e => by
  injection e with _ e; injection e with h0 e; injection e with h1 e; injection e with h2 e; injection e with h3 e; injection e with h4 e; injection e with h5 e
  rw [h0, h1, h2, h3, h4, h5] at h
  simp at h
theorem vid_ne {v k a0 a1 a2 a3 a4 a5 b0 b1 b2 b3 b4 b5 : Int} (h : ¬ v = k) : ¬ [v, a0, a1, a2, a3, a4, a5] = [k, b0, b1, b2, b3, b4, b5] := fun e => h (List.cons.inj e).1
/-- the first place of a key -/
def fd_ (k : List Int) : List KV → Nat → Int
  | [], _ => -1
  | r :: l, i => if r.1 = k then (i : Int) else fd_ k l (i + 1)
theorem fd_yes {r : KV} {l : List KV} {k : List Int} {i : Nat} (h : r.1 = k) : fd_ k (r :: l) i = i := if_pos h
theorem fd_no {r : KV} {l : List KV} {k : List Int} {i : Nat} (h : ¬ r.1 = k) : fd_ k (r :: l) i = fd_ k l (i + 1) := if_neg h
def mcC (m : Mc) : SV1 := .agg [u_ m.m0, u_ m.m1, u_ m.m2, u_ m.m3, u_ m.m4, u_ m.m5]
def mcK (v : Int) (m : Mc) : List Int := [v, m.m0, m.m1, m.m2, m.m3, m.m4, m.m5]
def fdV (x : RT × Int × Mc) : Int := fd_ (mcK x.2.1 x.2.2) (acL x.1.a) 0
abbrev laFd (x : RT) (k : Int) (m : Mc) : LA where
  ι := Nat
  inv := fun y => y ≤ x.a.len ∧ fd_ (mcK k m) (rows (acR x.a) (x.a.len - y) y) y = fdV (x, k, m)
  T := fun y => ⟨29, [(1, int_ .i64 k), (5, .one (.a (.ptr 3 0))), (10, .one (.a (slA 2 x.a))), (11, int_ .i64 x.a.len), (12, int_ .i64 y)], rtM x ++ [some ⟨true, .flat [u_ m.m0, u_ m.m1, u_ m.m2, u_ m.m3, u_ m.m4, u_ m.m5]⟩]⟩
  μ := fun y => x.a.len - y
  ren := fun S => [0, 1, 2, S.ix 5]
noncomputable def cxFd (x : RT × Int × Mc) : Cx Try.prog := { ps := [], es := [], is := [], n0 := 3, loops := fun i => match i with | 2 => some (.inv (laFd x.1 x.2.1 x.2.2)) | _ => none, cuts := fun _ => none }
set_option maxHeartbeats 8000000 in
theorem fd_runs (x : RT × Int × Mc) (hp : obp (some (RTw x.1))) : Runs (cxFd x) Try.f33 [.one (.agg (rt0 x.1)), int_ .i64 x.2.1, .one (mcC x.2.2)] (rtM x.1) fun v _ => isRes (int_ .i64 (fdV x)) v := by
  obtain ⟨t, k, m⟩ := x
  have hw : RTw t := hp
  obtain ⟨h1, h2, h3⟩ := hw.a
  dsimp only at *
  repeat' (first | with_reducible exact trivial | with_reducible exact rfl | with_reducible exact Nat.le_refl _ | with_reducible exact (fun _ _ => rfl) | ((conv => whnf); first | (refine fun (x : Nat) => ?_) | (exact fun h => absurd h (by decide)) | (intro h9; (have h8 := of_decide_eq_true (p := type_of% h9) (by decide)); clear h8 h9) | (refine fun _ => ?_) | refine ⟨?_, ?_⟩ | exact trivial | exact Nat.le_refl _ | exact lex_q (by kernel_rfl) | exact lex_t (by kernel_rfl) | exact lex_h (by kernel_rfl) | fail))
  any_goals first
    | (refine enter_mk (la := laFd t k m) 0 ?_ (by (repeat' (first | ((conv => whnf); first | refine ⟨?_, ?_⟩ | exact trivial | fail) | (dsimp only; done) | ((try dsimp only); first | with_reducible exact rfl | exact Nat.le_refl _ | with_reducible exact (fun _ _ => rfl)))); first | ((all_goals ((try dsimp only [laFd] at *); (all_goals (try simp (disch := omega) only [w64', wu64', tdiv_pos, tmod_pos, Int.toNat_natCast, Nat.zero_add] at *)); (all_goals ((first | rfl | omega))))); done) | fail))
    | (refine enter_mk (la := laFd t k m) (x + 1) ?_ (by (repeat' (first | ((conv => whnf); first | refine ⟨?_, ?_⟩ | exact trivial | fail) | (dsimp only; done) | ((try dsimp only); first | with_reducible exact rfl | exact Nat.le_refl _ | with_reducible exact (fun _ _ => rfl)))); first | ((all_goals ((try dsimp only [laFd] at *); (all_goals (try simp (disch := omega) only [w64', wu64', tdiv_pos, tmod_pos, Int.toNat_natCast, Nat.zero_add] at *)); (all_goals ((first | rfl | omega | (rw [w64' (by omega) (by omega)]; omega)))))); done) | fail))
    | skip
  all_goals (try dsimp only [laFd] at *)
  all_goals (try simp only [Int.toNat_natCast, Nat.zero_add] at *)
  all_goals (try omega)
  all_goals (try exact eq25)
  all_goals (try exact ⟨Nat.zero_le _, rfl⟩)
  all_goals (have hi := (by assumption : x ≤ t.a.len ∧ fd_ (mcK k m) (rows (acR t.a) (t.a.len - x) x) x = fdV (t, k, m)); obtain ⟨i1, i2⟩ := hi)
  all_goals (try (rw [rows_end (by omega)] at i2; exact i2.symm))
  all_goals (rw [rows_step (by omega)] at i2)
  all_goals first
    | (rw [fd_yes (r := acR t.a x) (k := mcK k m) (mac_t (by assumption) (by assumption))] at i2; exact i2.symm)
    | (rw [fd_no (r := acR t.a x) (k := mcK k m) (vid_ne (by assumption))] at i2; exact ⟨by omega, i2⟩)
    | (rw [fd_no (r := acR t.a x) (k := mcK k m) (mac_f (by assumption))] at i2; exact ⟨by omega, i2⟩)
noncomputable def findS : PSpec Try.prog := readN fn33 (.s3 Lens.rt (.int .i64) Lens.mc) cxFd (fun x => some (RTw x.1)) (fun x => int_ .i64 (fdV x)) (fun _ => rfl) (fun _ => rfl) (fun _ => rfl) fd_runs
end

end Go.Proofs.Ytnkmfkongmijfaa
