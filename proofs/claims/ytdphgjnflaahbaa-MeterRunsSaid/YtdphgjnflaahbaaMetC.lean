/-
  Contracts of functions, and plain facts about them, that a claim of this seat uses.
-/
import Derived.Test.YtdphgjnflaahbaaSx
import Derived.Test.YtdphgjnflaahbaaMWideNum
import Derived.Test.YtdphgjnflaahbaaMRefA
import Derived.Test.YtdphgjnflaahbaaMRefB
import Derived.Test.YtdphgjnflaahbaaMWideU
import Derived.Test.YtdphgjnflaahbaaMLen
import Derived.Test.YtdphgjnflaahbaaMDiv64
import Derived.Test.YtdphgjnflaahbaaMDivU
import Derived.Test.YtdphgjnflaahbaaMMulDiv
import Derived.Test.YtdphgjnflaahbaaMHeld
import Derived.Test.YtdphgjnflaahbaaMetA
import Derived.Test.YtdphgjnflaahbaaMetB
import Derived.Test.YtdphgjnflaahbaaProg
namespace Go.Proofs.Ytdphgjnflaahbaa
open Go.Sx
set_option linter.unusedVariables false
set_option linter.unusedSimpArgs false
set_option maxRecDepth 100000

/-! pails: In's contract, Check, New, Bits, Shut, Open, the head. -/
theorem fn9 : FnOf Try.prog 9 Try.f9 := ⟨Try.func9, rfl, rfl, mixed⟩
theorem fn10 : FnOf Try.prog 10 Try.f10 := ⟨Try.func10, rfl, rfl, mixed⟩
theorem fn12 : FnOf Try.prog 12 Try.f12 := ⟨Try.func12, rfl, rfl, mixed⟩
theorem fn13 : FnOf Try.prog 13 Try.f13 := ⟨Try.func13, rfl, rfl, mixed⟩
theorem fn14 : FnOf Try.prog 14 Try.f14 := ⟨Try.func14, rfl, rfl, mixed⟩
theorem fn8 : FnOf Try.prog 8 Try.f8 := ⟨Try.func8, rfl, rfl, mixed⟩
def rdMI (cs : List SA) (ar : List SV) : Option (Mt × Int × Int × Bool) := match ar with | [.one (.a (.v (.int .i64 n))), .one (.a (.v (.int .i64 q))), .one (.a (.v (.bool y)))] => (rdM cs).map (·, n, q, y) | _ => none
theorem mt_eta (m : Mt) : (⟨m.rate, m.burst, m.more, m.beyond, m.couple, m.aware, m.shut, m.last, m.p0, m.p1, m.off⟩ : Mt) = m := rfl
structure Cf where
  rate : Int
  burst : Int
  more : Int
  beyond : Int
  couple : Bool
  aware : Bool
  shut : Bool
def Lens.mconf : Lens Cf where
  sp := .agg [.i .i64, .i .i64, .i .i64, .i .i64, .b, .b, .b]
  pat := fun a => match a with | .agg [.i .i64 a, .i .i64 b, .i .i64 c, .i .i64 d, .b e, .b f, .b g] => some ⟨a, b, c, d, e, f, g⟩ | _ => none
  arg := fun x => .agg [.i .i64 x.rate, .i .i64 x.burst, .i .i64 x.more, .i .i64 x.beyond, .b x.couple, .b x.aware, .b x.shut]
  ok := fun a x h => by
    split at h
    · cases h; rfl
    · cases h
def Cf.cells (x : Cf) : List SA := [i_ x.rate, i_ x.burst, i_ x.more, i_ x.beyond, b_' x.couple, b_' x.aware, b_' x.shut]
def CfM (x : Cf) : Prop := (0 ≤ x.rate ∧ x.rate ≤ 8589934592) ∧ (0 ≤ x.burst ∧ x.burst ≤ 8589934592) ∧ (0 ≤ x.more ∧ x.more ≤ 8589934592) ∧ (0 ≤ x.beyond ∧ x.beyond ≤ 8589934592)
instance (x : Cf) : Decidable (CfM x) := by unfold CfM; exact inferInstance
def chkM (x : Cf) : Int := if CfM x then 0 else 1
theorem chkM_0 {x : Cf} (h : CfM x) : chkM x = 0 := if_pos h
theorem chkM_1 {x : Cf} (h : ¬ CfM x) : chkM x = 1 := if_neg h
theorem cfm_of {x : Cf} (h : ¬ ¬ chkM x = 0) : CfM x := by
  by_cases h9 : CfM x
  · exact h9
  · rw [chkM_1 h9] at h; exact absurd (by decide) h
def Cf.g (x : Cf) : Nat → Int := fun r => [x.rate, x.burst, x.more, x.beyond].getD r 0
theorem cfm_all {x : Cf} (h : ∀ j, j < 4 → 0 ≤ x.g j ∧ x.g j ≤ 8589934592) : CfM x := ⟨h 0 (by decide), h 1 (by decide), h 2 (by decide), h 3 (by decide)⟩
theorem cfm_not {x : Cf} {j : Nat} (hj : j < 4) (h : x.g j < 0 ∨ 8589934592 < x.g j) : ¬ CfM x := fun ⟨h0, h1, h2, h3⟩ => by
  rcases (by omega : j = 0 ∨ j = 1 ∨ j = 2 ∨ j = 3) with e | e | e | e <;> subst e <;> simp [Cf.g] at h <;> omega
def C00 : Cx Try.prog := { ps := [], es := [], is := [], n0 := 0, loops := fun _ => none, cuts := fun _ => none }
abbrev laCk (x : Cf) : LA where
  ι := Nat
  inv := fun i => i ≤ 4 ∧ ∀ j, j < i → 0 ≤ x.g j ∧ x.g j ≤ 8589934592
  T := fun i => ⟨26, [(13, .one (.a (.slc 0 1 0 4 4))), (14, int_ .i64 4), (15, int_ .i64 i)], [some ⟨true, .tab 4 [.int .i64 x.g]⟩]⟩
  μ := fun i => 4 - i
  ren := fun S => [S.ix 13]
noncomputable def cxCk (x : Cf) : Cx Try.prog := { ps := [], es := [], is := [], n0 := 0, loops := fun i => match i with | 2 => some (.inv (laCk x)) | _ => none, cuts := fun _ => none }
section
attribute [local irreducible] enter anyAlt
set_option maxHeartbeats 8000000 in
theorem chkM_runs (w : Cf) (_ : obp (some True)) : Runs (cxCk w) Try.f9 [.one (.agg w.cells)] [] fun v _ => isRes (int_ .i64 (chkM w)) v := by
  repeat' (first | with_reducible exact trivial | with_reducible exact rfl | with_reducible exact Nat.le_refl _ | with_reducible exact (fun _ _ => rfl) | ((conv => whnf); first | (refine fun (x : Nat) => ?_) | (refine fun _ => ?_) | refine ⟨?_, ?_⟩ | exact trivial | exact Nat.le_refl _ | exact lex_q (by kernel_rfl) | exact lex_t (by kernel_rfl) | exact lex_h (by kernel_rfl) | fail))

  any_goals first
    | (refine enter_mk (la := laCk w) 0 ?_ (by (repeat' (first | ((conv => whnf); first | refine ⟨?_, ?_⟩ | exact trivial | fail) | (dsimp only; done) | ((try dsimp only); first | with_reducible exact rfl | exact Nat.le_refl _ | with_reducible exact (fun _ _ => rfl)))); first | ((all_goals ((try dsimp only [laCk] at *); (all_goals (try simp (disch := omega) only [w64', wu64', tdiv_pos, tmod_pos, Int.toNat_natCast, Nat.zero_add] at *)); (all_goals ((first | rfl | omega | exact fun _ _ => rfl))))); done) | fail))
    | (refine enter_mk (la := laCk w) (x + 1) ?_ (by (repeat' (first | ((conv => whnf); first | refine ⟨?_, ?_⟩ | exact trivial | fail) | (dsimp only; done) | ((try dsimp only); first | with_reducible exact rfl | exact Nat.le_refl _ | with_reducible exact (fun _ _ => rfl)))); first | ((all_goals ((try dsimp only [laCk] at *); (all_goals (try simp (disch := omega) only [w64', wu64', tdiv_pos, tmod_pos, Int.toNat_natCast, Nat.zero_add] at *)); (all_goals ((first | rfl | omega | (rw [w64' (by omega) (by omega)]; omega)))))); done) | fail))
    | fail
  all_goals (try dsimp only [laCk] at *)
  all_goals (try simp only [Int.toNat_natCast, Nat.zero_add] at *)
  all_goals (try omega)
  all_goals first
    | exact ⟨by omega, fun j hj => absurd hj (Nat.not_lt_zero j)⟩
    | exact chkM_1 (cfm_not (j := x) (by omega) (by omega))
    | (have hi := (by assumption : x ≤ 4 ∧ _)
       refine ⟨by omega, fun j hj => ?_⟩
       rcases Nat.lt_or_ge j x with h9 | h9
       · exact hi.2 j h9
       · obtain rfl : j = x := by omega
         omega)
    | (have hi := (by assumption : x ≤ 4 ∧ _)
       exact chkM_0 (cfm_all fun j hj => hi.2 j (by omega)))
end
noncomputable def chkMS : PSpec Try.prog := readN fn9 (.s1 Lens.mconf) cxCk (fun _ => some True) (fun x => int_ .i64 (chkM x)) (fun _ => rfl) (fun _ => rfl) (fun _ => rfl) chkM_runs
noncomputable def cxNew : Cx Try.prog := { ps := [chkMS], es := [], is := [], n0 := 0, loops := fun _ => none, cuts := fun _ => none }
theorem rdMI_ok (cs : List SA) (ar : List SV) (x : Mt × Int × Int × Bool) (h : rdMI cs ar = some x) : ar = [int_ .i64 x.2.1, int_ .i64 x.2.2.1, .one (.a (.v (.bool x.2.2.2)))] ∧ ∀ ρ, [int_ .i64 x.2.1, int_ .i64 x.2.2.1, .one (.a (.v (.bool x.2.2.2)))].map (SV.ren ρ) = [int_ .i64 x.2.1, int_ .i64 x.2.2.1, .one (.a (.v (.bool x.2.2.2)))] ∧ ∃ l, subCon ((Con.flat x.1.cells).ren ρ) (.flat cs) = some l ∧ Holds l := by
  unfold rdMI at h
  split at h
  · obtain ⟨s, hs, rfl⟩ := Option.map_eq_some_iff.1 h
    exact ⟨rfl, fun ρ => ⟨rfl, rdM_ok hs ρ⟩⟩
  · cases h
noncomputable def minS : ESpec Try.prog := objSpec fn11 (Mt × Int × Int × Bool) (fun _ => cxMIn) (fun _ => rfl) rdMI (fun x => x.1.cells) (fun x => [int_ .i64 x.2.1, int_ .i64 x.2.2.1, .one (.a (.v (.bool x.2.2.2)))]) (fun x => some (MOk x.1)) (fun x => .tup [.a (i_ (x.1.in_ x.2.1 x.2.2.1 x.2.2.2).2.1), .a (i_ (x.1.in_ x.2.1 x.2.2.1 x.2.2.2).2.2)]) (fun x => (x.1.in_ x.2.1 x.2.2.1 x.2.2.2).1.cells) rdMI_ok (fun x h => min_runs x.1 x.2.1 x.2.2.1 x.2.2.2 h)
def rdMF (cs : List SA) (ar : List SV) : Option (Mt × Int × Int) := match ar with | [.one (.a (.v (.int .i64 n))), .one (.a (.v (.int .i64 q))), .one (.a .ff)] => (rdM cs).map (·, n, q) | _ => none
theorem rdMF_ok (cs : List SA) (ar : List SV) (x : Mt × Int × Int) (h : rdMF cs ar = some x) : ar = [int_ .i64 x.2.1, int_ .i64 x.2.2, .one (.a .ff)] ∧ ∀ ρ, [int_ .i64 x.2.1, int_ .i64 x.2.2, .one (.a .ff)].map (SV.ren ρ) = [int_ .i64 x.2.1, int_ .i64 x.2.2, .one (.a .ff)] ∧ ∃ l, subCon ((Con.flat x.1.cells).ren ρ) (.flat cs) = some l ∧ Holds l := by
  unfold rdMF at h
  split at h
  · obtain ⟨s, hs, rfl⟩ := Option.map_eq_some_iff.1 h
    exact ⟨rfl, fun ρ => ⟨rfl, rdM_ok hs ρ⟩⟩
  · cases h
noncomputable def minF : ESpec Try.prog := objSpec fn11 (Mt × Int × Int) (fun _ => cxMIn) (fun _ => rfl) rdMF (fun x => x.1.cells) (fun x => [int_ .i64 x.2.1, int_ .i64 x.2.2, .one (.a .ff)]) (fun x => some (MOk x.1)) (fun x => .tup [.a (i_ (x.1.in_ x.2.1 x.2.2 false).2.1), .a (i_ (x.1.in_ x.2.1 x.2.2 false).2.2)]) (fun x => (x.1.in_ x.2.1 x.2.2 false).1.cells) rdMF_ok (fun x h => min_runs_ff x.1 x.2.1 x.2.2 h)
def rdM0 (cs : List SA) (ar : List SV) : Option Mt := match ar with | [] => rdM cs | _ => none
theorem rdM0_ok (cs : List SA) (ar : List SV) (x : Mt) (h : rdM0 cs ar = some x) : ar = [] ∧ ∀ ρ, ([] : List SV).map (SV.ren ρ) = [] ∧ ∃ l, subCon ((Con.flat x.cells).ren ρ) (.flat cs) = some l ∧ Holds l := by
  unfold rdM0 at h
  split at h
  · exact ⟨rfl, fun ρ => ⟨rfl, rdM_ok h ρ⟩⟩
  · cases h
theorem bits_runs (m : Mt) (_ : obp (some True)) : Runs C00 Try.f12 [.one (.a (.ptr 0 0))] [some ⟨false, .flat m.cells⟩] fun v _ => isRes (.tup [.a (i_ (IntKind.i64.wrap (m.p0.tdiv 1000000000))), .a (i_ (IntKind.i64.wrap (m.p1.tdiv 1000000000)))]) v := by
  repeat' (first | with_reducible exact trivial | with_reducible exact rfl | with_reducible exact Nat.le_refl _ | with_reducible exact (fun _ _ => rfl) | ((conv => whnf); first | (refine fun _ => ?_) | refine ⟨?_, ?_⟩ | exact trivial | exact Nat.le_refl _ | exact lex_q (by kernel_rfl) | exact lex_t (by kernel_rfl) | exact lex_h (by kernel_rfl) | fail))
noncomputable def bitsS : PSpec Try.prog := readSpec fn12 Mt (fun _ => C00) (fun _ => rfl) rdM0 Mt.cells (fun _ => []) (fun _ => some True) (fun m => .tup [.a (i_ (IntKind.i64.wrap (m.p0.tdiv 1000000000))), .a (i_ (IntKind.i64.wrap (m.p1.tdiv 1000000000)))]) rdM0_ok (fun _ => rfl) bits_runs
theorem shut_runs (m : Mt) (_ : obp (some True)) : Runs C00 Try.f13 [.one (.a (.ptr 0 0))] [some ⟨false, .flat m.cells⟩] fun v _ => isRes (.one (.a (b_' m.off))) v := by
  repeat' (first | with_reducible exact trivial | with_reducible exact rfl | with_reducible exact Nat.le_refl _ | with_reducible exact (fun _ _ => rfl) | ((conv => whnf); first | (refine fun _ => ?_) | refine ⟨?_, ?_⟩ | exact trivial | exact Nat.le_refl _ | exact lex_q (by kernel_rfl) | exact lex_t (by kernel_rfl) | exact lex_h (by kernel_rfl) | fail))
noncomputable def shutS : PSpec Try.prog := readSpec fn13 Mt (fun _ => C00) (fun _ => rfl) rdM0 Mt.cells (fun _ => []) (fun _ => some True) (fun m => .one (.a (b_' m.off))) rdM0_ok (fun _ => rfl) shut_runs
def C01 : Cx Try.prog := { ps := [], es := [], is := [], n0 := 1, loops := fun _ => none, cuts := fun _ => none }
theorem open_runs (m : Mt) (_ : obp (some True)) : Runs C01 Try.f14 [.one (.a (.ptr 0 0))] [some ⟨true, .flat m.cells⟩] fun v m' => altOne [some ⟨true, .flat m.cells⟩] [0] v m' (.tup []) [some ⟨true, .flat ({ m with off := false } : Mt).cells⟩] := by
  repeat' (first | with_reducible exact trivial | with_reducible exact rfl | with_reducible exact Nat.le_refl _ | with_reducible exact (fun _ _ => rfl) | ((conv => whnf); first | (refine fun _ => ?_) | refine ⟨?_, ?_⟩ | exact trivial | exact Nat.le_refl _ | exact lex_q (by kernel_rfl) | exact lex_t (by kernel_rfl) | exact lex_h (by kernel_rfl) | fail))
noncomputable def openS : ESpec Try.prog := objSpec fn14 Mt (fun _ => C01) (fun _ => rfl) rdM0 Mt.cells (fun _ => []) (fun _ => some True) (fun _ => .tup []) (fun m => ({ m with off := false } : Mt).cells) rdM0_ok open_runs
/-! the head -/
def mt0 (x : Cf) (now : Int) : Mt := ⟨x.rate, x.burst, x.more, x.beyond, x.couple, x.aware, x.shut, now, x.burst * 1000000000, x.beyond * 1000000000, false⟩
theorem mt0_ok {x : Cf} (h : CfM x) {now : Int} (hn : 0 ≤ now ∧ now ≤ 1099511627776) : MOk (mt0 x now) := by
  obtain ⟨h1, h2, h3, h4⟩ := h
  exact ⟨h1, h2, h3, h4, hn, ⟨by show 0 ≤ x.burst * 1000000000; omega, Int.le_refl _⟩, ⟨by show 0 ≤ x.beyond * 1000000000; omega, Int.le_refl _⟩⟩
def hd0 : Mt := ⟨8, 80, 0, 0, false, false, false, 0, IntKind.i64.wrap (80 * 1000000000), IntKind.i64.wrap (0 * 1000000000), false⟩
def hd1 : Mt := (hd0.in_ 0 10 false).1
def hd2 : Mt := (hd1.in_ 0 1 false).1
theorem hd0_ok : MOk hd0 := by constructor <;> decide +kernel
theorem hd1_ok : MOk hd1 := by constructor <;> decide +kernel
theorem hd2_ok : MOk hd2 := by constructor <;> decide +kernel
noncomputable def cxHd : Cx Try.prog := { ps := [], es := [minS, minF], is := [inl fn10 cxNew], n0 := 0, loops := fun _ => none, cuts := fun _ => none }
def Sig.s0 : Sig Unit where
  sh := []
  pat := fun a => match a with | [] => some () | _ => none
  arg := fun _ => []
  ok := fun a x h => by
    split at h
    · rfl
    · cases h
section
attribute [local irreducible] enter anyAlt
set_option maxHeartbeats 8000000 in
theorem hd_runs (_ : Unit) (_ : obp (some True)) : Runs cxHd Try.f8 [] [] fun v _ => isRes (.one (.a (.v (.bool true)))) v := by
  have h0 : chkM ⟨8, 80, 0, 0, false, false, false⟩ = 0 := by decide
  repeat' (first | with_reducible exact trivial | with_reducible exact rfl | with_reducible exact Nat.le_refl _ | with_reducible exact (fun _ _ => rfl) | ((conv => whnf); first | (refine fun _ => ?_) | refine ⟨?_, ?_⟩ | exact trivial | exact Nat.le_refl _ | exact lex_q (by kernel_rfl) | exact lex_t (by kernel_rfl) | exact lex_h (by kernel_rfl) | fail))
  all_goals (try exact absurd h0 (by assumption))
  all_goals (try exact absurd (by assumption : (0 : Int) < 0) (by decide))
  all_goals (try exact absurd (by assumption : (1099511627776 : Int) < 0) (by decide))
  all_goals first
    | exact hd0_ok
    | exact hd1_ok
    | exact hd2_ok
    | exact (decide_eq_true (p := (hd2.in_ 1000000000 1 false).2.1 = 0) (by decide +kernel)).symm
    | exact absurd (by decide +kernel : (hd1.in_ 0 1 false).2.1 = 2) (by assumption)
    | exact absurd (by decide +kernel : (hd0.in_ 0 10 false).2.1 = 0) (by assumption)
    | exact absurd (by decide +kernel : (hd0.in_ 0 10 false).2.2 = 0) (by assumption)
    | exact absurd (by decide +kernel : (hd1.in_ 0 1 false).2.2 = 0) (by assumption)
    | exact absurd (by decide +kernel : (hd2.in_ 1000000000 1 false).2.2 = 0) (by assumption)
end
noncomputable def hdS : PSpec Try.prog := readN fn8 Sig.s0 (fun _ => cxHd) (fun _ => some True) (fun _ => .one (.a (.v (.bool true)))) (fun _ => rfl) (fun _ => rfl) (fun _ => rfl) hd_runs

end Go.Proofs.Ytdphgjnflaahbaa
