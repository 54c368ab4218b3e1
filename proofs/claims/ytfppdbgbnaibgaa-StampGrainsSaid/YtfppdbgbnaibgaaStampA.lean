/-
  Contracts of functions, and plain facts about them, that a claim of this seat uses.
-/
import Derived.Test.YtfppdbgbnaibgaaSx
import Derived.Test.YtfppdbgbnaibgaaWideNum
import Derived.Test.YtfppdbgbnaibgaaRefA
import Derived.Test.YtfppdbgbnaibgaaRefB
import Derived.Test.YtfppdbgbnaibgaaWideU
import Derived.Test.YtfppdbgbnaibgaaLen
import Derived.Test.YtfppdbgbnaibgaaDiv64
import Derived.Test.YtfppdbgbnaibgaaDivU
import Derived.Test.YtfppdbgbnaibgaaMulDiv
import Derived.Test.YtfppdbgbnaibgaaProg
namespace Go.Proofs.Ytfppdbgbnaibgaa
open Go.Sx
set_option linter.unusedVariables false
set_option linter.unusedSimpArgs false
set_option maxRecDepth 100000

/-! times: whether a sum fits, sums, differences, nanoseconds, grains. -/
theorem fn63 : FnOf Try.prog 63 Try.f63 := ⟨Try.func63, rfl, rfl, mixed⟩
theorem fn48 : FnOf Try.prog 48 Try.f48 := ⟨Try.func48, rfl, rfl, mixed⟩
theorem fn50 : FnOf Try.prog 50 Try.f50 := ⟨Try.func50, rfl, rfl, mixed⟩
theorem fn47 : FnOf Try.prog 47 Try.f47 := ⟨Try.func47, rfl, rfl, mixed⟩
theorem fn43 : FnOf Try.prog 43 Try.f43 := ⟨Try.func43, rfl, rfl, mixed⟩
theorem fn45 : FnOf Try.prog 45 Try.f45 := ⟨Try.func45, rfl, rfl, mixed⟩
theorem fn35 : FnOf Try.prog 35 Try.f35 := ⟨Try.func35, rfl, rfl, mixed⟩
theorem fn31 : FnOf Try.prog 31 Try.f31 := ⟨Try.func31, rfl, rfl, mixed⟩
def Sig.s00 : Sig Unit where
  sh := []
  pat := fun a => match a with | [] => some () | _ => none
  arg := fun _ => []
  ok := fun a x h => by
    split at h
    · rfl
    · cases h
def nn (x e : Int) : SV := .tup [.a (.v (.int .i64 x)), .a (.v (.int .i64 e))]
instance (n : Int) : Decidable (I64 n) := by unfold I64; exact inferInstance
def fitsB (s x : Int) : Bool := decide (I64 (s + x))
theorem fits_runs (x : Int × Int) (hp : obp (some (I64 x.1 ∧ I64 x.2))) : Runs C0 Try.f63 [int_ .i64 x.1, int_ .i64 x.2] [] fun v _ => isRes (b_ (fitsB x.1 x.2)) v := by
  obtain ⟨s, x⟩ := x
  obtain ⟨hs, hx⟩ := hp
  dsimp only at *
  by_cases h : I64 (s + x)
  · have hf : fitsB s x = true := by unfold fitsB; exact decide_eq_true h
    rw [hf]
    unfold I64 at *
    repeat' (first | exact trivial | with_reducible exact rfl | exact Nat.le_refl _ | with_reducible exact (fun _ _ => rfl) | ((conv => whnf); first | (refine fun _ => ?_) | refine ⟨?_, ?_⟩ | exact trivial | exact lex_q (by kernel_rfl) | exact lex_t (by kernel_rfl) | exact lex_h (by kernel_rfl) | fail))
    all_goals (try dsimp only at *)
    all_goals (try simp (disch := omega) only [w64'] at *)
    all_goals first | omega | (simp [*]; omega)
  · have hf : fitsB s x = false := by unfold fitsB; exact decide_eq_false h
    rw [hf]
    unfold I64 at *
    repeat' (first | exact trivial | with_reducible exact rfl | exact Nat.le_refl _ | with_reducible exact (fun _ _ => rfl) | ((conv => whnf); first | (refine fun _ => ?_) | refine ⟨?_, ?_⟩ | exact trivial | exact lex_q (by kernel_rfl) | exact lex_t (by kernel_rfl) | exact lex_h (by kernel_rfl) | fail))
    all_goals (try dsimp only at *)
    all_goals (try simp (disch := omega) only [w64'] at *)
    all_goals first | omega | (simp [*]; omega)
noncomputable def fitsS : PSpec Try.prog := readN fn63 (.s2 (.int .i64) (.int .i64)) (fun _ => C0) (fun x => some (I64 x.1 ∧ I64 x.2)) (fun x => b_ (fitsB x.1 x.2)) (fun _ => rfl) (fun _ => rfl) (fun _ => rfl) fits_runs
def smX (s : Int) : Int := if I64 s then s else 0
def smE (s : Int) : Int := if I64 s then 0 else 10
noncomputable def cx48 : Cx Try.prog := { ps := [fitsS], es := [], is := [], n0 := 0, loops := fun _ => none, cuts := fun _ => none }
theorem sadd_runs (x : Int × Int) (hp : obp (some (I64 x.1 ∧ I64 x.2))) : Runs cx48 Try.f48 [int_ .i64 x.1, int_ .i64 x.2] [] fun v _ => isRes (nn (smX (x.1 + x.2)) (smE (x.1 + x.2))) v := by
  obtain ⟨s, x⟩ := x
  obtain ⟨hs, hx⟩ := hp
  dsimp only at *
  by_cases h : I64 (s + x)
  · have hf : fitsB s x = true := by unfold fitsB; exact decide_eq_true h
    have e1 : smX (s + x) = s + x := if_pos h
    have e2 : smE (s + x) = 0 := if_pos h
    rw [e1, e2]
    repeat' (first | exact trivial | with_reducible exact rfl | exact Nat.le_refl _ | with_reducible exact (fun _ _ => rfl) | ((conv => whnf); first | (refine fun _ => ?_) | refine ⟨?_, ?_⟩ | exact trivial | exact lex_q (by kernel_rfl) | exact lex_t (by kernel_rfl) | exact lex_h (by kernel_rfl) | fail))
    all_goals (try dsimp only at *)
    all_goals unfold I64 at *
    all_goals (try simp (disch := omega) only [w64'] at *)
    all_goals first | omega | (simp [hf] at *; done)
  · have hf : fitsB s x = false := by unfold fitsB; exact decide_eq_false h
    have e1 : smX (s + x) = 0 := if_neg h
    have e2 : smE (s + x) = 10 := if_neg h
    rw [e1, e2]
    repeat' (first | exact trivial | with_reducible exact rfl | exact Nat.le_refl _ | with_reducible exact (fun _ _ => rfl) | ((conv => whnf); first | (refine fun _ => ?_) | refine ⟨?_, ?_⟩ | exact trivial | exact lex_q (by kernel_rfl) | exact lex_t (by kernel_rfl) | exact lex_h (by kernel_rfl) | fail))
    all_goals (try dsimp only at *)
    all_goals unfold I64 at *
    all_goals first | omega | (simp [hf] at *; done)
noncomputable def saddS : PSpec Try.prog := readN fn48 (.s2 (.int .i64) (.int .i64)) (fun _ => cx48) (fun x => some (I64 x.1 ∧ I64 x.2)) (fun x => nn (smX (x.1 + x.2)) (smE (x.1 + x.2))) (fun _ => rfl) (fun _ => rfl) (fun _ => rfl) sadd_runs
noncomputable def cx50 : Cx Try.prog := { ps := [saddS], es := [], is := [], n0 := 0, loops := fun _ => none, cuts := fun _ => none }
theorem ssub_runs (x : Int × Int) (hp : obp (some (I64 x.1 ∧ I64 x.2))) : Runs cx50 Try.f50 [int_ .i64 x.1, int_ .i64 x.2] [] fun v _ => isRes (nn (smX (x.1 - x.2)) (smE (x.1 - x.2))) v := by
  obtain ⟨s, x⟩ := x
  obtain ⟨hs, hx⟩ := hp
  dsimp only at *
  by_cases hm : x = -9223372036854775808
  · subst hm
    by_cases h : 0 ≤ s
    · have e1 : smX (s - -9223372036854775808) = 0 := if_neg (by unfold I64; omega)
      have e2 : smE (s - -9223372036854775808) = 10 := if_neg (by unfold I64; omega)
      rw [e1, e2]
      repeat' (first | exact trivial | with_reducible exact rfl | exact Nat.le_refl _ | with_reducible exact (fun _ _ => rfl) | ((conv => whnf); first | (refine fun _ => ?_) | refine ⟨?_, ?_⟩ | exact trivial | exact lex_q (by kernel_rfl) | exact lex_t (by kernel_rfl) | exact lex_h (by kernel_rfl) | fail))
      all_goals (try dsimp only at *)
      all_goals unfold I64 at *
      all_goals first | omega | exact absurd trivial (by assumption)
    · have e1 : smX (s - -9223372036854775808) = s - -9223372036854775808 := if_pos (by unfold I64 at *; omega)
      have e2 : smE (s - -9223372036854775808) = 0 := if_pos (by unfold I64 at *; omega)
      rw [e1, e2]
      repeat' (first | exact trivial | with_reducible exact rfl | exact Nat.le_refl _ | with_reducible exact (fun _ _ => rfl) | ((conv => whnf); first | (refine fun _ => ?_) | refine ⟨?_, ?_⟩ | exact trivial | exact lex_q (by kernel_rfl) | exact lex_t (by kernel_rfl) | exact lex_h (by kernel_rfl) | fail))
      all_goals (try dsimp only at *)
      all_goals unfold I64 at *
      all_goals (try simp (disch := omega) only [w64'] at *)
      all_goals first | omega | exact absurd trivial (by assumption)
  · have en : IntKind.i64.wrap (0 - x) = 0 - x := w64' (by unfold I64 at *; omega) (by unfold I64 at *; omega)
    have e3 : s + (0 - x) = s - x := by omega
    repeat' (first | exact trivial | with_reducible exact rfl | exact Nat.le_refl _ | with_reducible exact (fun _ _ => rfl) | ((conv => whnf); first | (refine fun _ => ?_) | refine ⟨?_, ?_⟩ | exact trivial | exact lex_q (by kernel_rfl) | exact lex_t (by kernel_rfl) | exact lex_h (by kernel_rfl) | fail))
    all_goals (try dsimp only at *)
    all_goals (try rw [en])
    all_goals (try rw [e3])
    all_goals unfold I64 at *
    all_goals omega
noncomputable def ssubS : PSpec Try.prog := readN fn50 (.s2 (.int .i64) (.int .i64)) (fun _ => cx50) (fun x => some (I64 x.1 ∧ I64 x.2)) (fun x => nn (smX (x.1 - x.2)) (smE (x.1 - x.2))) (fun _ => rfl) (fun _ => rfl) (fun _ => rfl) ssub_runs
noncomputable def cxMdl : Cx Try.prog := { ps := [muldivS], es := [], is := [], n0 := 0, loops := fun _ => none, cuts := fun _ => none }
theorem ns_runs (x : Int) (hp : obp (some (I64 x))) : Runs cxMdl Try.f47 [int_ .i64 x] [] fun v _ => isRes (nn (mdX x 65536 1 0) (mdE x 65536 1 0)) v := by
  have hx : I64 x := hp
  unfold I64 at hx
  repeat' (first | exact trivial | with_reducible exact rfl | exact Nat.le_refl _ | with_reducible exact (fun _ _ => rfl) | ((conv => whnf); first | (refine fun _ => ?_) | refine ⟨?_, ?_⟩ | exact trivial | exact lex_q (by kernel_rfl) | exact lex_t (by kernel_rfl) | exact lex_h (by kernel_rfl) | fail))
  all_goals (try dsimp only at *)
  all_goals omega
noncomputable def nsS : PSpec Try.prog := readN fn47 (.s1 (.int .i64)) (fun _ => cxMdl) (fun x => some (I64 x)) (fun x => nn (mdX x 65536 1 0) (mdE x 65536 1 0)) (fun _ => rfl) (fun _ => rfl) (fun _ => rfl) ns_runs
theorem by_runs (x : Int × Int) (hp : obp (some (I64 x.1 ∧ I64 x.2))) : Runs cxMdl Try.f35 [int_ .i64 x.1, int_ .i64 x.2] [] fun v _ => isRes (nn (mdX x.1 x.2 2199023255552 2) (mdE x.1 x.2 2199023255552 2)) v := by
  obtain ⟨s, x⟩ := x
  obtain ⟨hs, hx⟩ := hp
  unfold I64 at *
  dsimp only at *
  repeat' (first | exact trivial | with_reducible exact rfl | exact Nat.le_refl _ | with_reducible exact (fun _ _ => rfl) | ((conv => whnf); first | (refine fun _ => ?_) | refine ⟨?_, ?_⟩ | exact trivial | exact lex_q (by kernel_rfl) | exact lex_t (by kernel_rfl) | exact lex_h (by kernel_rfl) | fail))
  all_goals (try dsimp only at *)
  all_goals omega
noncomputable def byS : PSpec Try.prog := readN fn35 (.s2 (.int .i64) (.int .i64)) (fun _ => cxMdl) (fun x => some (I64 x.1 ∧ I64 x.2)) (fun x => nn (mdX x.1 x.2 2199023255552 2) (mdE x.1 x.2 2199023255552 2)) (fun _ => rfl) (fun _ => rfl) (fun _ => rfl) by_runs
noncomputable def cxH3 : Cx Try.prog := { ps := [nsS], es := [], is := [], n0 := 0, loops := fun _ => none, cuts := fun _ => none }
theorem head3_runs (_ : Unit) (_ : obp (some True)) : Runs cxH3 Try.f31 [] [] fun v _ => isRes (.one (.a (.v (.bool true)))) v := by
  have x0 : mdX 3 65536 1 0 = 196608 := by decide
  have e0 : mdE 3 65536 1 0 = 0 := by decide
  repeat' (first | exact trivial | with_reducible exact rfl | exact Nat.le_refl _ | with_reducible exact (fun _ _ => rfl) | ((conv => whnf); first | (refine fun _ => ?_) | refine ⟨?_, ?_⟩ | exact trivial | exact lex_q (by kernel_rfl) | exact lex_t (by kernel_rfl) | exact lex_h (by kernel_rfl) | fail))
  all_goals (try dsimp only at *)
  all_goals (first | (unfold I64; omega) | omega | (simp [x0, e0] at *; done) | (unfold I64; simp; done))
noncomputable def head3S : PSpec Try.prog := readN fn31 Sig.s00 (fun _ => cxH3) (fun _ => some True) (fun _ => .one (.a (.v (.bool true)))) (fun _ => rfl) (fun _ => rfl) (fun _ => rfl) head3_runs
theorem floor_runs (x : Int) (hp : obp (some (I64 x))) : Runs C0 Try.f45 [int_ .i64 x] [] fun v _ => isRes (int_ .i64 (x / 65536)) v := by
  have hx : I64 x := hp
  unfold I64 at hx
  repeat' (first | exact trivial | with_reducible exact rfl | exact Nat.le_refl _ | with_reducible exact (fun _ _ => rfl) | ((conv => whnf); first | (refine fun _ => ?_) | refine ⟨?_, ?_⟩ | exact trivial | exact lex_q (by kernel_rfl) | exact lex_t (by kernel_rfl) | exact lex_h (by kernel_rfl) | fail))
  all_goals (try dsimp only at *)
  all_goals (try rw [show (2 : Int) ^ min (Int.toNat 16) IntKind.i64.bits = 65536 from by decide, Int.fdiv_eq_ediv_of_nonneg _ (by decide)])
  all_goals omega
noncomputable def floorS : PSpec Try.prog := readN fn45 (.s1 (.int .i64)) (fun _ => C0) (fun x => some (I64 x)) (fun x => int_ .i64 (x / 65536)) (fun _ => rfl) (fun _ => rfl) (fun _ => rfl) floor_runs
def grF (s n : Int) : Int := s - s % (n * 65536)
def grX (s n : Int) : Int := if n < 1 ∨ 1048576 < n then 0 else if grF s n < -9223372036854775808 then 0 else grF s n
def grE (s n : Int) : Int := if n < 1 ∨ 1048576 < n then 1 else if grF s n < -9223372036854775808 then 10 else 0
theorem tm_at {s g : Int} (hg : 0 < g) : (0 ≤ Int.tmod s g ∧ Int.tmod s g = s % g) ∨ (Int.tmod s g < 0 ∧ Int.tmod s g + g = s % g) := by
  have h1 := Int.mul_tdiv_add_tmod s g
  have h2 := Int.tmod_lt_of_pos s hg
  have h3 := Int.lt_tmod_of_pos s hg
  generalize Int.tmod s g = t at *
  generalize Int.tdiv s g = q at *
  by_cases h : 0 ≤ t
  · exact .inl ⟨h, ((Int.ediv_emod_unique (a := s) (r := t) (q := q) hg).2 ⟨by omega, h, h2⟩).2.symm⟩
  · refine .inr ⟨by omega, ((Int.ediv_emod_unique (a := s) (r := t + g) (q := q - 1) hg).2 ⟨by rw [Int.mul_sub]; omega, by omega, by omega⟩).2.symm⟩
set_option maxHeartbeats 4000000 in
theorem grain_runs (x : Int × Int) (hp : obp (some (I64 x.1 ∧ I64 x.2))) : Runs C0 Try.f43 [int_ .i64 x.1, int_ .i64 x.2] [] fun v _ => isRes (nn (grX x.1 x.2) (grE x.1 x.2)) v := by
  obtain ⟨s, n⟩ := x
  obtain ⟨hs, hn⟩ := hp
  dsimp only at *
  unfold I64 at *
  by_cases hb : n < 1 ∨ 1048576 < n
  · have e1 : grX s n = 0 := if_pos hb
    have e2 : grE s n = 1 := if_pos hb
    rw [e1, e2]
    repeat' (first | exact trivial | with_reducible exact rfl | exact Nat.le_refl _ | with_reducible exact (fun _ _ => rfl) | ((conv => whnf); first | (refine fun _ => ?_) | refine ⟨?_, ?_⟩ | exact trivial | exact lex_q (by kernel_rfl) | exact lex_t (by kernel_rfl) | exact lex_h (by kernel_rfl) | fail))
    all_goals (try dsimp only at *)
    all_goals omega
  · have hg : 0 < n * 65536 := by omega
    have ht := tm_at (s := s) hg
    have r0 := Int.emod_nonneg s (show n * 65536 ≠ 0 by omega)
    have r1 := Int.emod_lt_of_pos s hg
    have t1 := Int.tmod_lt_of_pos s hg
    have t2 := Int.lt_tmod_of_pos s hg
    have wg : IntKind.i64.wrap (n * 65536) = n * 65536 := w64' (by omega) (by omega)
    have wt : IntKind.i64.wrap (Int.tmod s (n * 65536)) = Int.tmod s (n * 65536) := w64' (by omega) (by omega)
    have ef : grF s n = s - s % (n * 65536) := rfl
    have e1 : grX s n = if grF s n < -9223372036854775808 then 0 else grF s n := if_neg hb
    have e2 : grE s n = if grF s n < -9223372036854775808 then 10 else 0 := if_neg hb
    rw [e1, e2]
    repeat' (first | exact trivial | with_reducible exact rfl | exact Nat.le_refl _ | with_reducible exact (fun _ _ => rfl) | ((conv => whnf); first | (refine fun _ => ?_) | refine ⟨?_, ?_⟩ | exact trivial | exact lex_q (by kernel_rfl) | exact lex_t (by kernel_rfl) | exact lex_h (by kernel_rfl) | fail))
    all_goals (try dsimp only at *)
    all_goals (try simp only [wg, wt] at *)
    all_goals (try omega)
    all_goals
      generalize Int.tmod s (n * 65536) = t at *
      generalize s % (n * 65536) = r at *
    all_goals (try simp (disch := omega) only [w64'] at *)
    all_goals first | omega | (split <;> omega) | (rw [w64' (by omega) (by omega)]; split <;> omega)
noncomputable def grainS : PSpec Try.prog := readN fn43 (.s2 (.int .i64) (.int .i64)) (fun _ => C0) (fun x => some (I64 x.1 ∧ I64 x.2)) (fun x => nn (grX x.1 x.2) (grE x.1 x.2)) (fun _ => rfl) (fun _ => rfl) (fun _ => rfl) grain_runs

end Go.Proofs.Ytfppdbgbnaibgaa
