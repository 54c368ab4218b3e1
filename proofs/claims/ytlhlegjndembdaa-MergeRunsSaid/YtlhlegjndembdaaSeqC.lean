/-
  Contracts of functions, and plain facts about them, that a claim of this seat uses.
-/
import Derived.Test.YtlhlegjndembdaaSx
import Derived.Test.YtlhlegjndembdaaSeqA
import Derived.Test.YtlhlegjndembdaaSeqB
import Derived.Test.YtlhlegjndembdaaProg
namespace Go.Proofs.Ytlhlegjndembdaa
open Go.Sx
set_option linter.unusedVariables false
set_option linter.unusedSimpArgs false
set_option maxRecDepth 100000

/-! numbers that came: In's contract, Check, New, Counts, Lost, Resets, Reset, the head. -/
theorem fn18 : FnOf Try.prog 18 Try.f18 := ⟨Try.func18, rfl, rfl, mixed⟩
theorem fn15 : FnOf Try.prog 15 Try.f15 := ⟨Try.func15, rfl, rfl, mixed⟩
theorem fn20 : FnOf Try.prog 20 Try.f20 := ⟨Try.func20, rfl, rfl, mixed⟩
theorem fn21 : FnOf Try.prog 21 Try.f21 := ⟨Try.func21, rfl, rfl, mixed⟩
theorem fn22 : FnOf Try.prog 22 Try.f22 := ⟨Try.func22, rfl, rfl, mixed⟩
theorem fn14 : FnOf Try.prog 14 Try.f14 := ⟨Try.func14, rfl, rfl, mixed⟩
theorem sq_eta (s : Sq) : (⟨s.way, s.len, s.reset, s.any, s.last, s.had, s.wen, s.k0, s.k1, s.k2, s.k3, s.resets, s.lost⟩ : Sq) = s := rfl
def rd2 (cs : List SA) (ar : List SV) : Option (Sq × Int × Int) := match ar with | [.one (.a (.v (.int .i64 n))), .one (.a (.v (.int .i64 q)))] => (rdSq cs).map (·, n, q) | _ => none
theorem rd2_ok (cs : List SA) (ar : List SV) (x : Sq × Int × Int) (h : rd2 cs ar = some x) : ar = [int_ .i64 x.2.1, int_ .i64 x.2.2] ∧ ∀ ρ, [int_ .i64 x.2.1, int_ .i64 x.2.2].map (SV.ren ρ) = [int_ .i64 x.2.1, int_ .i64 x.2.2] ∧ ∃ l, subCon ((Con.flat x.1.cells).ren ρ) (.flat cs) = some l ∧ Holds l := by
  unfold rd2 at h
  split at h
  · obtain ⟨s, hs, rfl⟩ := Option.map_eq_some_iff.1 h
    exact ⟨rfl, fun ρ => ⟨rfl, rdSq_ok hs ρ⟩⟩
  · cases h
theorem rd0_ok (cs : List SA) (ar : List SV) (x : Sq) (h : rd0 cs ar = some x) : ar = [] ∧ ∀ ρ, ([] : List SV).map (SV.ren ρ) = [] ∧ ∃ l, subCon ((Con.flat x.cells).ren ρ) (.flat cs) = some l ∧ Holds l := by
  unfold rd0 at h
  split at h
  · exact ⟨rfl, fun ρ => ⟨rfl, rdSq_ok h ρ⟩⟩
  · cases h
noncomputable def inS : ESpec Try.prog := objSpec fn17 (Sq × Int × Int) (fun x => cxIn x.1 x.2.1 x.2.2) (fun _ => rfl) rd2 (fun x => x.1.cells) (fun x => [int_ .i64 x.2.1, int_ .i64 x.2.2]) (fun x => some (1 ≤ x.1.len ∧ x.1.len ≤ 9223372036854775807)) (fun x => .tup [.a (i_ (x.1.in_ x.2.1 x.2.2).1), .a (i_ (x.1.in_ x.2.1 x.2.2).2.1)]) (fun x => (x.1.in_ x.2.1 x.2.2).2.2.cells) rd2_ok (fun x h => in_runs x.1 x.2.1 x.2.2 h)
def Lens.conf : Lens (Int × Int × Int) where
  sp := .agg [.i .i64, .i .i64, .i .i64]
  pat := fun a => match a with | .agg [.i .i64 a, .i .i64 b, .i .i64 c] => some (a, b, c) | _ => none
  arg := fun x => .agg [.i .i64 x.1, .i .i64 x.2.1, .i .i64 x.2.2]
  ok := fun a x h => by
    split at h
    · cases h; rfl
    · cases h
def C00 : Cx Try.prog := { ps := [], es := [], is := [], n0 := 0, loops := fun _ => none, cuts := fun _ => none }
def CfOK (x : Int × Int × Int) : Prop := (x.1 = 0 ∨ x.1 = 1) ∧ (1 ≤ x.2.1 ∧ x.2.1 ≤ 64) ∧ 1 ≤ x.2.2 ∧ x.2.2 ≤ 1099511627776
instance (x : Int × Int × Int) : Decidable (CfOK x) := by unfold CfOK; exact inferInstance
def chkC (x : Int × Int × Int) : Int := if CfOK x then 0 else 1
theorem chkC_0 {x : Int × Int × Int} (h : CfOK x) : chkC x = 0 := if_pos h
theorem chkC_1 {x : Int × Int × Int} (h : ¬ CfOK x) : chkC x = 1 := if_neg h
theorem chkC_runs (x : Int × Int × Int) (_ : obp (some True)) : Runs C00 Try.f18 [.one (.agg [i_ x.1, i_ x.2.1, i_ x.2.2])] [] fun v _ => isRes (int_ .i64 (chkC x)) v := by
  repeat' (first | with_reducible exact trivial | with_reducible exact rfl | with_reducible exact Nat.le_refl _ | with_reducible exact (fun _ _ => rfl) | ((conv => whnf); first | (refine fun _ => ?_) | refine ⟨?_, ?_⟩ | exact trivial | exact Nat.le_refl _ | exact lex_q (by kernel_rfl) | exact lex_t (by kernel_rfl) | exact lex_h (by kernel_rfl) | fail))
  all_goals (try dsimp only at *)
  all_goals first
    | exact chkC_0 (by unfold CfOK; omega)
    | exact chkC_1 (by unfold CfOK; omega)
noncomputable def chkCS : PSpec Try.prog := readN fn18 (.s1 Lens.conf) (fun _ => C00) (fun _ => some True) (fun x => int_ .i64 (chkC x)) (fun _ => rfl) (fun _ => rfl) (fun _ => rfl) chkC_runs
noncomputable def cxNew : Cx Try.prog := { ps := [chkCS], es := [], is := [], n0 := 0, loops := fun _ => none, cuts := fun _ => none }
theorem counts_runs (s : Sq) (_ : obp (some True)) : Runs C00 Try.f20 [.one (.a (.ptr 0 0))] [some ⟨false, .flat s.cells⟩] fun v _ => isRes (.one (.agg [i_ s.k0, i_ s.k1, i_ s.k2, i_ s.k3])) v := by
  repeat' (first | with_reducible exact trivial | with_reducible exact rfl | with_reducible exact Nat.le_refl _ | with_reducible exact (fun _ _ => rfl) | ((conv => whnf); first | (refine fun _ => ?_) | refine ⟨?_, ?_⟩ | exact trivial | exact Nat.le_refl _ | exact lex_q (by kernel_rfl) | exact lex_t (by kernel_rfl) | exact lex_h (by kernel_rfl) | fail))
noncomputable def countsS : PSpec Try.prog := readSpec fn20 Sq (fun _ => C00) (fun _ => rfl) rd0 Sq.cells (fun _ => []) (fun _ => some True) (fun s => .one (.agg [i_ s.k0, i_ s.k1, i_ s.k2, i_ s.k3])) rd0_ok (fun _ => rfl) counts_runs
theorem lost_runs (s : Sq) (_ : obp (some True)) : Runs C00 Try.f21 [.one (.a (.ptr 0 0))] [some ⟨false, .flat s.cells⟩] fun v _ => isRes (int_ .i64 s.lost) v := by
  repeat' (first | with_reducible exact trivial | with_reducible exact rfl | with_reducible exact Nat.le_refl _ | with_reducible exact (fun _ _ => rfl) | ((conv => whnf); first | (refine fun _ => ?_) | refine ⟨?_, ?_⟩ | exact trivial | exact Nat.le_refl _ | exact lex_q (by kernel_rfl) | exact lex_t (by kernel_rfl) | exact lex_h (by kernel_rfl) | fail))
noncomputable def lostS : PSpec Try.prog := readSpec fn21 Sq (fun _ => C00) (fun _ => rfl) rd0 Sq.cells (fun _ => []) (fun _ => some True) (fun s => int_ .i64 s.lost) rd0_ok (fun _ => rfl) lost_runs
theorem resets_runs (s : Sq) (_ : obp (some True)) : Runs C00 Try.f22 [.one (.a (.ptr 0 0))] [some ⟨false, .flat s.cells⟩] fun v _ => isRes (int_ .i64 s.resets) v := by
  repeat' (first | with_reducible exact trivial | with_reducible exact rfl | with_reducible exact Nat.le_refl _ | with_reducible exact (fun _ _ => rfl) | ((conv => whnf); first | (refine fun _ => ?_) | refine ⟨?_, ?_⟩ | exact trivial | exact Nat.le_refl _ | exact lex_q (by kernel_rfl) | exact lex_t (by kernel_rfl) | exact lex_h (by kernel_rfl) | fail))
noncomputable def resetsS : PSpec Try.prog := readSpec fn22 Sq (fun _ => C00) (fun _ => rfl) rd0 Sq.cells (fun _ => []) (fun _ => some True) (fun s => int_ .i64 s.resets) rd0_ok (fun _ => rfl) resets_runs
theorem reset_runs (s : Sq) (_ : obp (some True)) : Runs (C0n 1) Try.f19 [.one (.a (.ptr 0 0))] [some ⟨true, .flat s.cells⟩] fun v m' => altOne [some ⟨true, .flat s.cells⟩] [0] v m' (.tup []) [some ⟨true, .flat s.anew.cells⟩] := by
  repeat' (first | with_reducible exact trivial | with_reducible exact rfl | with_reducible exact Nat.le_refl _ | with_reducible exact (fun _ _ => rfl) | ((conv => whnf); first | (refine fun _ => ?_) | refine ⟨?_, ?_⟩ | exact trivial | exact Nat.le_refl _ | exact lex_q (by kernel_rfl) | exact lex_t (by kernel_rfl) | exact lex_h (by kernel_rfl) | fail))
  all_goals rfl
noncomputable def resetS : ESpec Try.prog := objSpec fn19 Sq (fun _ => C0n 1) (fun _ => rfl) rd0 Sq.cells (fun _ => []) (fun _ => some True) (fun _ => .tup []) (fun s => s.anew.cells) rd0_ok reset_runs
/-! the head -/
def sq0 (way len reset now : Int) : Sq := ⟨way, len, reset, true, 0, 0, now, 0, 0, 0, 0, 0, 0⟩
def wantL : Nat → Int := fun r => [(0 : Int), 0, 3, 1, 2, 2].getD r 0
def seqL : Nat → Int := fun r => [(5 : Int), 7, 6, 7, 3, 12].getD r 0
def stAt : Nat → Sq
  | 0 => sq0 0 4 100 0
  | i + 1 => ((stAt i).in_ 0 (seqL i)).2.2
abbrev laHd : LA where
  ι := Nat
  inv := fun i => i ≤ 6
  T := fun i => ⟨44, [(1, .one (.a (.ptr 2 0))), (3, .one (.a (.slc 0 1 0 6 6))), (20, .one (.a (.slc 1 1 0 6 6))), (21, int_ .i64 6), (22, int_ .i64 i)], [some ⟨true, .tab 6 [.int .i64 wantL]⟩, some ⟨true, .tab 6 [.int .i64 seqL]⟩, some ⟨true, .flat (stAt i).cells⟩]⟩
  μ := fun i => 6 - i
  ren := fun S => [S.ix 3, S.ix 20, S.ix 1]
noncomputable def cxHd : Cx Try.prog := { ps := [], es := [inS], is := [inl fn15 cxNew], n0 := 0, loops := fun i => match i with | 6 => some (.inv laHd) | _ => none, cuts := fun _ => none }
theorem hd_facts : ∀ i, i < 6 → ((stAt i).in_ 0 (seqL i)).1 = wantL i ∧ ((stAt i).in_ 0 (seqL i)).2.1 = 0 ∧ (stAt i).len = 4 := by
  have : ∀ i : Fin 6, ((stAt i).in_ 0 (seqL i)).1 = wantL i ∧ ((stAt i).in_ 0 (seqL i)).2.1 = 0 ∧ (stAt i).len = 4 := by decide +kernel
  exact fun i hi => this ⟨i, hi⟩
def Sig.s0 : Sig Unit where
  sh := []
  pat := fun a => match a with | [] => some () | _ => none
  arg := fun _ => []
  ok := fun a x h => by
    split at h
    · rfl
    · cases h
attribute [local irreducible] enter anyAlt
set_option maxHeartbeats 8000000 in
theorem hd_runs (_ : Unit) (_ : obp (some True)) : Runs cxHd Try.f14 [] [] fun v _ => isRes (.one (.a (.v (.bool true)))) v := by
  have h0 : chkC (0, 4, 100) = 0 := by decide
  repeat' (first | with_reducible exact trivial | with_reducible exact rfl | with_reducible exact Nat.le_refl _ | with_reducible exact (fun _ _ => rfl) | ((conv => whnf); first | (refine fun (x : Nat) => ?_) | (refine fun _ => ?_) | refine ⟨?_, ?_⟩ | exact trivial | exact Nat.le_refl _ | exact lex_q (by kernel_rfl) | exact lex_t (by kernel_rfl) | exact lex_h (by kernel_rfl) | fail))
  all_goals (try exact absurd h0 (by assumption))
  all_goals (try exact absurd rfl (by assumption : ¬ (0 : Int) = 0))
  all_goals (try (have hi := (by assumption : laHd.inv x); dsimp only [laHd] at hi))
  any_goals first
    | (refine enter_mk (la := laHd) 0 ?_ (by (repeat' (first | ((conv => whnf); first | refine ⟨?_, ?_⟩ | exact trivial | fail) | (dsimp only; done) | ((try dsimp only); first | with_reducible exact rfl | exact Nat.le_refl _ | with_reducible exact (fun _ _ => rfl)))); first | ((all_goals ((try dsimp only [laHd] at *); (all_goals (try simp (disch := omega) only [w64', wu64', tdiv_pos, tmod_pos, Int.toNat_natCast, Nat.zero_add] at *)); (all_goals ((first | rfl | omega | exact fun _ _ => rfl))))); done) | fail))
    | (refine enter_mk (la := laHd) (x + 1) ?_ (by (repeat' (first | ((conv => whnf); first | refine ⟨?_, ?_⟩ | exact trivial | fail) | (dsimp only; done) | ((try dsimp only); first | with_reducible exact rfl | exact Nat.le_refl _ | with_reducible exact (fun _ _ => rfl)))); first | ((all_goals ((try dsimp only [laHd] at *); (all_goals (try simp (disch := omega) only [w64', wu64', tdiv_pos, tmod_pos, Int.toNat_natCast, Nat.zero_add] at *)); (all_goals ((first | rfl | omega | (rw [w64' (by omega) (by omega)]; omega)))))); done) | fail))
    | fail
  all_goals (try dsimp only [laHd] at *)
  all_goals (try omega)
  all_goals (try simp only [sq_eta, Int.toNat_natCast, Nat.zero_add] at *)
  all_goals
    obtain ⟨f1, f2, f3⟩ := hd_facts x (by omega)
    first
    | (rw [f3]; decide)
    | exact absurd f1 (by assumption)
    | exact absurd f2 (by assumption)
noncomputable def hdS : PSpec Try.prog := readN fn14 Sig.s0 (fun _ => cxHd) (fun _ => some True) (fun _ => .one (.a (.v (.bool true)))) (fun _ => rfl) (fun _ => rfl) (fun _ => rfl) hd_runs
theorem cf_of {x : Int × Int × Int} (h : ¬ ¬ chkC x = 0) : CfOK x := by
  by_cases h9 : CfOK x
  · exact h9
  · rw [chkC_1 h9] at h; exact absurd (by decide) h

end Go.Proofs.Ytlhlegjndembdaa
