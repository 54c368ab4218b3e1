/-
  Contracts of functions, and plain facts about them, that a claim of this seat uses.
-/
import Derived.Test.YtkhkmicbjnkicaaSx
import Derived.Test.YtkhkmicbjnkicaaTMulDiv
import Derived.Test.YtkhkmicbjnkicaaStmW
import Derived.Test.YtkhkmicbjnkicaaStmEven
import Derived.Test.YtkhkmicbjnkicaaProg
namespace Go.Proofs.Ytkhkmicbjnkicaa
open Go.Sx
set_option linter.unusedVariables false
set_option linter.unusedSimpArgs false
set_option maxRecDepth 100000

/-! stamps: the middle one as a contract; what the laws call beside it. -/
theorem fn5 : FnOf Try.prog 5 Try.f5 := ⟨Try.func5, rfl, rfl, mixed⟩
theorem fn7 : FnOf Try.prog 7 Try.f7 := ⟨Try.func7, rfl, rfl, mixed⟩
theorem fn8 : FnOf Try.prog 8 Try.f8 := ⟨Try.func8, rfl, rfl, mixed⟩
theorem fn9 : FnOf Try.prog 9 Try.f9 := ⟨Try.func9, rfl, rfl, mixed⟩
theorem fn10 : FnOf Try.prog 10 Try.f10 := ⟨Try.func10, rfl, rfl, mixed⟩
theorem fn11 : FnOf Try.prog 11 Try.f11 := ⟨Try.func11, rfl, rfl, mixed⟩
def nn (x e : Int) : SV := .tup [.a (.v (.int .i64 x)), .a (.v (.int .i64 e))]
noncomputable def cxMdl : Cx Try.prog := { ps := [muldivS], es := [], is := [], n0 := 0, loops := fun _ => none, cuts := fun _ => none }
theorem ns_runs (x : Int) (hp : obp (some (I64 x))) : Runs cxMdl Try.f11 [int_ .i64 x] [] fun v _ => isRes (nn (mdX x 65536 1 0) (mdE x 65536 1 0)) v := by
  have hx : I64 x := hp
  unfold I64 at hx
  repeat' (first | with_reducible exact trivial | with_reducible exact rfl | with_reducible exact Nat.le_refl _ | with_reducible exact (fun _ _ => rfl) | ((conv => whnf); first | (refine fun _ => ?_) | refine ⟨?_, ?_⟩ | exact trivial | exact Nat.le_refl _ | exact lex_q (by kernel_rfl) | exact lex_t (by kernel_rfl) | exact lex_h (by kernel_rfl) | fail))
  all_goals (try dsimp only at *)
  all_goals omega
noncomputable def nsS : PSpec Try.prog := readN fn11 (.s1 (.int .i64)) (fun _ => cxMdl) (fun x => some (I64 x)) (fun x => nn (mdX x 65536 1 0) (mdE x 65536 1 0)) (fun _ => rfl) (fun _ => rfl) (fun _ => rfl) ns_runs
theorem by_runs (x : Int × Int) (hp : obp (some (I64 x.1 ∧ I64 x.2))) : Runs cxMdl Try.f9 [int_ .i64 x.1, int_ .i64 x.2] [] fun v _ => isRes (nn (mdX x.1 x.2 2199023255552 2) (mdE x.1 x.2 2199023255552 2)) v := by
  obtain ⟨s, x⟩ := x
  obtain ⟨hs, hx⟩ := hp
  unfold I64 at *
  dsimp only at *
  repeat' (first | with_reducible exact trivial | with_reducible exact rfl | with_reducible exact Nat.le_refl _ | with_reducible exact (fun _ _ => rfl) | ((conv => whnf); first | (refine fun _ => ?_) | refine ⟨?_, ?_⟩ | exact trivial | exact Nat.le_refl _ | exact lex_q (by kernel_rfl) | exact lex_t (by kernel_rfl) | exact lex_h (by kernel_rfl) | fail))
  all_goals (try dsimp only at *)
  all_goals omega
noncomputable def byS : PSpec Try.prog := readN fn9 (.s2 (.int .i64) (.int .i64)) (fun _ => cxMdl) (fun x => some (I64 x.1 ∧ I64 x.2)) (fun x => nn (mdX x.1 x.2 2199023255552 2) (mdE x.1 x.2 2199023255552 2)) (fun _ => rfl) (fun _ => rfl) (fun _ => rfl) by_runs
theorem inv_runs (x : Int) (hp : obp (some (I64 x))) : Runs cxMdl Try.f10 [int_ .i64 x] [] fun v _ => isRes (nn (mdX 2199023255552 2199023255552 x 2) (mdE 2199023255552 2199023255552 x 2)) v := by
  have hx : I64 x := hp
  unfold I64 at hx
  repeat' (first | with_reducible exact trivial | with_reducible exact rfl | with_reducible exact Nat.le_refl _ | with_reducible exact (fun _ _ => rfl) | ((conv => whnf); first | (refine fun _ => ?_) | refine ⟨?_, ?_⟩ | exact trivial | exact Nat.le_refl _ | exact lex_q (by kernel_rfl) | exact lex_t (by kernel_rfl) | exact lex_h (by kernel_rfl) | fail))
  all_goals (try dsimp only at *)
  all_goals omega
noncomputable def invS : PSpec Try.prog := readN fn10 (.s1 (.int .i64)) (fun _ => cxMdl) (fun x => some (I64 x)) (fun x => nn (mdX 2199023255552 2199023255552 x 2) (mdE 2199023255552 2199023255552 x 2)) (fun _ => rfl) (fun _ => rfl) (fun _ => rfl) inv_runs
def Sig.s00 : Sig Unit where
  sh := []
  pat := fun a => match a with | [] => some () | _ => none
  arg := fun _ => []
  ok := fun a x h => by
    split at h
    · rfl
    · cases h
noncomputable def cxH3 : Cx Try.prog := { ps := [nsS], es := [], is := [], n0 := 0, loops := fun _ => none, cuts := fun _ => none }
theorem head_runs (_ : Unit) (_ : obp (some True)) : Runs cxH3 Try.f5 [] [] fun v _ => isRes (.one (.a (.v (.bool true)))) v := by
  have x0 : mdX 3 65536 1 0 = 196608 := by decide
  have e0 : mdE 3 65536 1 0 = 0 := by decide
  repeat' (first | with_reducible exact trivial | with_reducible exact rfl | with_reducible exact Nat.le_refl _ | with_reducible exact (fun _ _ => rfl) | ((conv => whnf); first | (refine fun _ => ?_) | refine ⟨?_, ?_⟩ | exact trivial | exact Nat.le_refl _ | exact lex_q (by kernel_rfl) | exact lex_t (by kernel_rfl) | exact lex_h (by kernel_rfl) | fail))
  all_goals (try dsimp only at *)
  all_goals (first | (unfold I64; omega) | omega | (simp [x0, e0] at *; done) | (unfold I64; simp; done))
noncomputable def hdS : PSpec Try.prog := readN fn5 Sig.s00 (fun _ => cxH3) (fun _ => some True) (fun _ => .one (.a (.v (.bool true)))) (fun _ => rfl) (fun _ => rfl) (fun _ => rfl) head_runs
/-- a time brought between two -/
def clX (s lo hi : Int) : Int := let c := if hi < s then hi else s; if c < lo then lo else c
theorem cl_runs (x : Int × Int × Int) (hp : obp none) : Runs C0 Try.f8 [int_ .i64 x.1, int_ .i64 x.2.1, int_ .i64 x.2.2] [] fun v _ => isRes (int_ .i64 (clX x.1 x.2.1 x.2.2)) v := by
  obtain ⟨s, lo, hi⟩ := x
  unfold clX
  repeat' (first | with_reducible exact trivial | with_reducible exact rfl | with_reducible exact Nat.le_refl _ | with_reducible exact (fun _ _ => rfl) | ((conv => whnf); first | (refine fun _ => ?_) | refine ⟨?_, ?_⟩ | exact trivial | exact Nat.le_refl _ | exact lex_q (by kernel_rfl) | exact lex_t (by kernel_rfl) | exact lex_h (by kernel_rfl) | fail))
  all_goals (try dsimp only at *)
  all_goals (try omega)
noncomputable def clS : PSpec Try.prog := readN fn8 (.s3 (.int .i64) (.int .i64) (.int .i64)) (fun _ => C0) (fun _ => none) (fun x => int_ .i64 (clX x.1 x.2.1 x.2.2)) (fun _ => rfl) (fun _ => rfl) (fun _ => rfl) cl_runs
/-! the middle one -/
def midX (g : Nat → Int) (n : Nat) : Int := if n = 0 then 0 else mid (upL g n)
def midE (n : Nat) : Int := if n = 0 then 5 else 0
theorem ints_of {e : Env} {w0 w : World} {W : Nat → Prop} {m : Mem} (hrel : Rel e w0 W m w) {i N : Nat} {b : Bool} {g : Nat → Int} (hm : m[i]? = some (some ⟨b, .tab N [.int .i64 g]⟩)) {len cap : Nat} (hl : len ≤ N) (h0 : 0 < len) : ∃ A, e i = some A ∧ Ints w.heap.size w (.slice (some A) len cap) (upL g len) := by
  have hR := hrel.reg i _ hm
  have cell : ∀ j, j < len → (Con.tab N [Col.int .i64 g]).cell e j = some (.int .i64 (g j)) := fun j hj => by
    simp [Con.cell, Nat.mod_one, Col.at_]; omega
  obtain ⟨A, hA, hc, _⟩ := hR.cell 0 _ (cell 0 h0)
  rw [show A.add 0 = A from rfl] at hc
  obtain ⟨blk, off, sp⟩ := A
  have hsp : sp = none := by
    unfold World.cell? at hc
    split at hc
    · split at hc
      · cases hc
      · rename_i hn; simpa using hn
    · cases hc
  subst hsp
  refine ⟨_, hA, ⟨blk, off, cap, by rw [upL_len], Go.block_lt_of_cell hc, fun j hj => ?_⟩⟩
  rw [upL_len] at hj
  obtain ⟨A2, hA2, hc2, _⟩ := hR.cell j _ (cell j hj)
  rw [hA] at hA2
  cases hA2
  rw [upL_get hj]
  rw [← show (⟨blk, off, none⟩ : Addr).add j = ⟨blk, off + j, none⟩ by unfold Addr.add; split <;> simp_all]
  exact hc2
theorem below_fr {w w' : World} (h : Go.RowKit.Below w.heap.size w w') : Fr w (fun _ => False) w' := ⟨h.os, h.tape, h.output, h.size, fun b hb _ => h.block b hb⟩
set_option maxRecDepth 100000 in
set_option maxHeartbeats 2000000 in
theorem middle_0 (a : Option Addr) (cap : Nat) (w : World) : Calls Try.prog 6 #[.slice a 0 cap] w fun e W' => e = .returned (.tuple #[.int .i64 0, .int .i64 5]) ∧ Go.RowKit.Below w.heap.size w W' := by
  refine (callsIn_wide (n := 9)).1 ?_
  refine callsIn_of_wp Try.func6 rfl trivial ?_ rfl
  simp only [Try.ntmps6, List.size_toArray, List.length_cons, List.length_nil, Nat.reduceAdd, Nat.reduceSub, Array.replicate_succ, Array.replicate_zero, List.push_toArray, List.append_toArray, List.nil_append, List.cons_append]
  gi_wp2
  go_ret2
  exact ⟨rfl, Go.RowKit.Below.refl _ _⟩
noncomputable def midS : PSpec Try.prog where
  f := 6
  X := Nat × Nat × Nat × Nat × (Nat → Int)
  inp := fun args m => match args with
    | [.one (.a (.slc i 1 0 len cap))] => (match m.reg i with
      | some ⟨_, .tab N [.int .i64 g]⟩ => some (i, len, cap, N, g)
      | _ => none)
    | _ => none
  pre := fun x => some (x.2.1 ≤ x.2.2.2.1 ∧ x.2.1 ≤ 1000)
  res := fun x => nn (midX x.2.2.2.2 x.2.1) (midE x.2.1)
  sound := fun args m x hx hp e w0 W w hrel => by
    split at hx
    · rename_i i len cap
      split at hx
      · rename_i b N g hreg
        cases hx
        obtain ⟨h1, h2⟩ : len ≤ N ∧ len ≤ 1000 := hp
        refine .inl ⟨enters_of Try.func6 (by kernel_rfl) rfl _ _, ?_⟩
        have hm := reg_of hreg
        rcases Nat.eq_zero_or_pos len with rfl | h0
        · have := middle_0 (at_ e i (0 * 1)) cap w
          refine this.mono ?_
          rintro r w' ⟨rfl, hb⟩
          exact ⟨rfl, hrel.same (below_fr hb)⟩
        · obtain ⟨A, hA, hI⟩ := ints_of hrel hm (cap := cap) h1 h0
          have := middle_in (some A) len cap (upL g len) (by rw [upL_len]; exact h0) (by rw [upL_len]; exact h2) w hI
          rw [show (List.map (SV.den e) [SV.one (SV1.a (SA.slc i 1 0 len cap))]).toArray = #[.slice (some A) len cap] by
            show #[SA.den e (.slc i 1 0 len cap)] = _
            rw [slc_den0, hA]]
          refine this.mono ?_
          rintro r w' ⟨rfl, hb⟩
          refine ⟨?_, hrel.same (below_fr hb)⟩
          have e1 : midX g len = mid (upL g len) := if_neg (by omega)
          have e2 : midE len = 0 := if_neg (by omega)
          show _ = Ending.returned (Value.tuple #[.int .i64 (midX g len), .int .i64 (midE len)])
          rw [e1, e2]
      · cases hx
    · cases hx
/-! the reference's middle one -/
def D1 (j : Nat) (s : IS) : SV := .one (.a (.slc j 1 0 s.len s.cap))
def roI (s : IS) : Option Reg := some ⟨false, .tab s.N [.int .i64 s.g]⟩
abbrev laO (s : IS) : LA where
  ι := Nat
  inv := fun i => i ≤ s.len ∧ ∀ r, r < i → ¬ mid (upL s.g s.len) = s.g r
  T := fun i => ⟨53, [(0, D1 0 s), (14, D1 0 s), (15, int_ .i64 s.len), (16, int_ .i64 i)], [roI s]⟩
  μ := fun i => s.len - i
  ren := fun _ => [0]
structure JN where
  j : Nat
abbrev gx (s : IS) (i : Int) : Int := s.g (0 + i.toNat)
abbrev laN (s : IS) (i : Int) : LA where
  ι := JN
  inv := fun y => y.j ≤ s.len
  T := fun y => ⟨53, [(0, D1 0 s), (14, D1 0 s), (15, int_ .i64 s.len), (16, int_ .i64 i), (5, int_ .i64 (gx s i)), (6, int_ .i64 (bel (gx s i) (upL s.g y.j))), (7, int_ .i64 (sam (gx s i) (upL s.g y.j))), (20, D1 0 s), (21, int_ .i64 s.len), (22, int_ .i64 y.j)], [roI s]⟩
  μ := fun y => s.len - y.j
  ren := fun _ => [0]
noncomputable def cxRm (s : IS) : Cx Try.prog := { ps := [], es := [], is := [], n0 := 1, loops := fun i => match i with | 4 => some (.inv (laO s)) | 9 => some (.here 16 (laN s)) | _ => none, cuts := fun _ => none }
theorem cnt_le (x : Int) (g : Nat → Int) (n : Nat) : bel x (upL g n) ≤ n ∧ sam x (upL g n) ≤ n := by
  have h := all_cnt x (upL g n)
  rw [upL_len] at h
  omega
theorem rm_iff {g : Nat → Int} {n : Nat} (h0 : 0 < n) (h3 : n ≤ 1000) (v : Int) : mid (upL g n) = v ↔ ((bel v (upL g n) : Nat) : Int) ≤ IntKind.i64.wrap ((IntKind.i64.wrap ((n : Int) - 1)).tdiv 2) ∧ IntKind.i64.wrap ((IntKind.i64.wrap ((n : Int) - 1)).tdiv 2) < IntKind.i64.wrap (((bel v (upL g n) : Nat) : Int) + ((sam v (upL g n) : Nat) : Int)) := by
  have h1 := mid_iff (l := upL g n) (by rw [upL_len]; exact h0) v
  have h2 := cnt_le v g n
  rw [upL_len] at h1
  rw [h1, w64' (n := (n : Int) - 1) (by omega) (by omega), Int.tdiv_eq_ediv_of_nonneg (by omega), w64' (by omega) (by omega), w64' (by omega) (by omega)]
  omega
section
attribute [local irreducible] enter mid
set_option maxHeartbeats 4000000 in
theorem rm_runs (s : IS) (hp : obp (some (s.len ≤ s.cap ∧ s.len ≤ s.N ∧ s.len ≤ 1000))) : Runs (cxRm s) Try.f7 [D1 0 s] [roI s] fun v _ => isRes (nn (midX s.g s.len) (midE s.len)) v := by
  obtain ⟨h1, h2, h3⟩ : s.len ≤ s.cap ∧ s.len ≤ s.N ∧ s.len ≤ 1000 := hp
  have z1 : (s.len : Int) = 0 → midX s.g s.len = 0 ∧ midE s.len = 5 := fun h => ⟨if_pos (by omega), if_pos (by omega)⟩
  repeat' (first | with_reducible exact trivial | with_reducible exact rfl | with_reducible exact Nat.le_refl _ | with_reducible exact (fun _ _ => rfl) | ((conv => whnf); first | (refine fun (x : Nat) => ?_) | (refine fun (y : JN) => ?_) | (exact fun h => absurd h (by decide)) | (intro h9; (have h8 := of_decide_eq_true (p := type_of% h9) (by decide)); clear h8 h9) | (refine fun _ => ?_) | refine ⟨?_, ?_⟩ | exact trivial | exact Nat.le_refl _ | exact lex_q (by kernel_rfl) | exact lex_t (by kernel_rfl) | exact lex_h (by kernel_rfl) | fail))
  all_goals (try first | exact (z1 (by assumption)).1 | exact (z1 (by assumption)).2 | fail)
  all_goals (have h0 : 0 < s.len := (by have h9 := (by assumption : ¬ (s.len : Int) = 0); omega))
  all_goals (try (have hx := (by assumption : (laO s).inv x); dsimp only [laO] at hx; obtain ⟨x1, x2⟩ := hx))
  all_goals (try (have hy := (by assumption : (laN s (x : Int)).inv y); dsimp only [laN] at hy; have c1 := cnt_le (gx s x) s.g y.j; have c2 := bel_up (gx s x) s.g y.j; have c3 := sam_up (gx s x) s.g y.j; have e0 : s.g (0 + ((y.j : Nat) : Int).toNat) = s.g y.j := (by rw [Nat.zero_add]; rfl)))
  all_goals (try omega)
  · (conv => whnf); refine enter_mk (la := laO s) 0 ?_ (by (repeat' (first | ((conv => whnf); first | refine ⟨?_, ?_⟩ | exact trivial | fail) | (dsimp only; done) | ((try dsimp only); first | with_reducible exact rfl | exact Nat.le_refl _ | with_reducible exact (fun _ _ => rfl)))); all_goals ((first | rfl | omega)))
    exact ⟨Nat.zero_le _, fun r hr => absurd hr (Nat.not_lt_zero r)⟩
  · (conv => whnf); refine enter_mk (la := laN s (x : Int)) ⟨0⟩ ?_ (by (repeat' (first | ((conv => whnf); first | refine ⟨?_, ?_⟩ | exact trivial | fail) | (dsimp only; done) | ((try dsimp only); first | with_reducible exact rfl | exact Nat.le_refl _ | with_reducible exact (fun _ _ => rfl)))); all_goals ((first | rfl | omega)))
    exact Nat.zero_le _
  · have d1 := (by assumption : s.g (0 + ((y.j : Nat) : Int).toNat) < gx s x)
    have d2 := (by assumption : ¬ s.g (0 + ((y.j : Nat) : Int).toNat) = gx s x)
    rw [e0] at d1 d2
    rw [if_pos d1] at c2
    rw [if_neg d2] at c3
    (conv => whnf)
    (conv => whnf); refine enter_mk (la := laN s (x : Int)) ⟨y.j + 1⟩ ?_ (by (repeat' (first | ((conv => whnf); first | refine ⟨?_, ?_⟩ | exact trivial | fail) | (dsimp only; done) | ((try dsimp only); first | with_reducible exact rfl | exact Nat.le_refl _ | with_reducible exact (fun _ _ => rfl)))); all_goals ((first | rfl | (dsimp only; omega) | (dsimp only; rw [w64' (by omega) (by omega)]; omega) | (show s.len - (y.j + 1) < s.len - y.j; omega) | (dsimp only; rw [c3]; rfl))))
    show y.j + 1 ≤ s.len; omega
  · have d1 := (by assumption : ¬ s.g (0 + ((y.j : Nat) : Int).toNat) < gx s x)
    have d2 := (by assumption : s.g (0 + ((y.j : Nat) : Int).toNat) = gx s x)
    rw [e0] at d1 d2
    rw [if_neg d1] at c2
    rw [if_pos d2] at c3
    (conv => whnf)
    (conv => whnf); refine enter_mk (la := laN s (x : Int)) ⟨y.j + 1⟩ ?_ (by (repeat' (first | ((conv => whnf); first | refine ⟨?_, ?_⟩ | exact trivial | fail) | (dsimp only; done) | ((try dsimp only); first | with_reducible exact rfl | exact Nat.le_refl _ | with_reducible exact (fun _ _ => rfl)))); all_goals ((first | rfl | (dsimp only; omega) | (dsimp only; rw [w64' (by omega) (by omega)]; omega) | (show s.len - (y.j + 1) < s.len - y.j; omega) | (dsimp only; rw [c2]; rfl))))
    show y.j + 1 ≤ s.len; omega
  · have d1 := (by assumption : ¬ s.g (0 + ((y.j : Nat) : Int).toNat) < gx s x)
    have d2 := (by assumption : ¬ s.g (0 + ((y.j : Nat) : Int).toNat) = gx s x)
    rw [e0] at d1 d2
    rw [if_neg d1] at c2
    rw [if_neg d2] at c3
    (conv => whnf)
    (conv => whnf); refine enter_mk (la := laN s (x : Int)) ⟨y.j + 1⟩ ?_ (by (repeat' (first | ((conv => whnf); first | refine ⟨?_, ?_⟩ | exact trivial | fail) | (dsimp only; done) | ((try dsimp only); first | with_reducible exact rfl | exact Nat.le_refl _ | with_reducible exact (fun _ _ => rfl)))); all_goals ((first | rfl | (dsimp only; omega) | (dsimp only; rw [w64' (by omega) (by omega)]; omega) | (show s.len - (y.j + 1) < s.len - y.j; omega) | (dsimp only; rw [c2]; rfl) | (dsimp only; rw [c3]; rfl))))
    show y.j + 1 ≤ s.len; omega
  all_goals (try (have hj : y.j = s.len := (by have h9 := (by assumption : ¬ (y.j : Int) < (s.len : Int)); omega); have iff := rm_iff (g := s.g) h0 h3 (gx s x); rw [← hj] at iff; have m1 : midX s.g s.len = mid (upL s.g s.len) := if_neg (by omega); have m2 : midE s.len = 0 := if_neg (by omega)))
  all_goals (try (have q1 := (by assumption : ((bel (gx s x) (upL s.g y.j) : Nat) : Int) ≤ IntKind.i64.wrap ((IntKind.i64.wrap ((s.len : Int) - 1)).tdiv 2)); have q2 := (by assumption : IntKind.i64.wrap ((IntKind.i64.wrap ((s.len : Int) - 1)).tdiv 2) < IntKind.i64.wrap (((bel (gx s x) (upL s.g y.j) : Nat) : Int) + ((sam (gx s x) (upL s.g y.j) : Nat) : Int))); rw [← hj] at q1 q2; have q3 := iff.2 ⟨q1, q2⟩))
  · rw [m1, ← hj]; exact q3
  · exact m2
  · have q2 := (by assumption : ¬ IntKind.i64.wrap ((IntKind.i64.wrap ((s.len : Int) - 1)).tdiv 2) < IntKind.i64.wrap (((bel (gx s x) (upL s.g y.j) : Nat) : Int) + ((sam (gx s x) (upL s.g y.j) : Nat) : Int)))
    rw [← hj] at q2
    have q3 : ¬ mid (upL s.g y.j) = gx s x := fun h => q2 (iff.1 h).2
    (conv => whnf)
    (conv => whnf); refine enter_mk (la := laO s) (x + 1) ?_ (by (repeat' (first | ((conv => whnf); first | refine ⟨?_, ?_⟩ | exact trivial | fail) | (dsimp only; done) | ((try dsimp only); first | with_reducible exact rfl | exact Nat.le_refl _ | with_reducible exact (fun _ _ => rfl)))); all_goals ((first | rfl | (dsimp only; omega) | (dsimp only; rw [w64' (by omega) (by omega)]; omega) | (show s.len - (x + 1) < s.len - x; omega))))
    refine ⟨by show x + 1 ≤ s.len; omega, fun r hr => ?_⟩
    rcases (by omega : r < x ∨ r = x) with h9 | rfl
    · exact x2 r h9
    · rw [← hj]; intro h9; exact q3 (h9.trans (by show s.g r = s.g (0 + r); rw [Nat.zero_add]))
  · have q2 := (by assumption : ¬ ((bel (gx s x) (upL s.g y.j) : Nat) : Int) ≤ IntKind.i64.wrap ((IntKind.i64.wrap ((s.len : Int) - 1)).tdiv 2))
    rw [← hj] at q2
    have q3 : ¬ mid (upL s.g y.j) = gx s x := fun h => q2 (iff.1 h).1
    (conv => whnf)
    (conv => whnf); refine enter_mk (la := laO s) (x + 1) ?_ (by (repeat' (first | ((conv => whnf); first | refine ⟨?_, ?_⟩ | exact trivial | fail) | (dsimp only; done) | ((try dsimp only); first | with_reducible exact rfl | exact Nat.le_refl _ | with_reducible exact (fun _ _ => rfl)))); all_goals ((first | rfl | (dsimp only; omega) | (dsimp only; rw [w64' (by omega) (by omega)]; omega) | (show s.len - (x + 1) < s.len - x; omega))))
    refine ⟨by show x + 1 ≤ s.len; omega, fun r hr => ?_⟩
    rcases (by omega : r < x ∨ r = x) with h9 | rfl
    · exact x2 r h9
    · rw [← hj]; intro h9; exact q3 (h9.trans (by show s.g r = s.g (0 + r); rw [Nat.zero_add]))
  all_goals
    exfalso
    obtain ⟨r, hr, he⟩ := upL_out (mid_mem (l := upL s.g s.len) (by rw [upL_len]; exact h0))
    exact x2 r (by omega) he.symm
noncomputable def rmS : PSpec Try.prog := readN fn7 (.s1 (Lens.ints .i64)) cxRm (fun s => some (s.len ≤ s.cap ∧ s.len ≤ s.N ∧ s.len ≤ 1000)) (fun s => nn (midX s.g s.len) (midE s.len)) (fun _ => rfl) (fun _ => rfl) (fun _ => rfl) rm_runs
end

end Go.Proofs.Ytkhkmicbjnkicaa
