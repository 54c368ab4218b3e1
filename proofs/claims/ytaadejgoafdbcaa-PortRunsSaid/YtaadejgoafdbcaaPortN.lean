/-
  Contracts of functions, and plain facts about them, that a claim of this seat uses.
-/
import Derived.Test.YtaadejgoafdbcaaSx
import Derived.Test.YtaadejgoafdbcaaPortC
import Derived.Test.YtaadejgoafdbcaaProg
namespace Go.Proofs.Ytaadejgoafdbcaa
open Go.Sx
set_option linter.unusedVariables false
set_option linter.unusedSimpArgs false
set_option maxRecDepth 100000

/-! the port's At and left, no list to come. -/
def gsN (l : GL) : List SA := [i_ l.base, i_ l.cyc, .slc 1 2 0 l.len l.cap, i_ 0, i_ 0, .v (.slice none 0 0), i_ 0, b_ false, .ptr 2 0]
def nM (l : GL) : Mem := [some ⟨true, .flat (gsN l)⟩, roG l, quiet0]
def rdN (ar : List SV) (m : Mem) : Option ((GL × Int) × List Nat) :=
  match ar with
  | [.one (.a (.ptr i 0)), .one (.a (.v (.int .i64 now)))] => (match m[i]? with
    | some (some ⟨true, .flat [.v (.int .i64 b), .v (.int .i64 c), .slc i1 2 0 n k, _, _, .v (.slice none 0 0), _, _, .ptr i3 0]⟩) => (match m[i1]? with
      | some (some ⟨_, .tab N [.int .i64 op, .int .i64 ln]⟩) => some ((⟨b, c, n, k, N, op, ln⟩, now), [i, i1, i3])
      | _ => none)
    | _ => none)
  | _ => none
def nArgs (x : GL × Int) : List SV := [.one (.a (.ptr 0 0)), int_ .i64 x.2]
theorem rdN_ok (ar : List SV) (m : Mem) (x : GL × Int) (ρ : List Nat) (h : rdN ar m = some (x, ρ)) : ar = (nArgs x).map (SV.ren ρ) := by
  unfold rdN at h
  split at h
  · split at h
    · split at h
      · cases h; rfl
      · cases h
    · cases h
  · cases h
theorem alt_o1 {m0 : Mem} {ρ : List Nat} {v : SV} {m : Mem} {v2 : SV} {m2 : Mem} (_ : True) (h : altOne m0 ρ v m v2 m2) : anyAlt m0 ρ v m [.one v2 m2] := h
structure NOK (l : GL) : Prop where
  lg : Gw l
  lc : chk l = 0
def cpN (l : GL) (y : CL) : SV := .one (.agg [i_ l.base, i_ l.cyc, .slc 3 2 0 l.len y.cap])
noncomputable def cxAtN : Cx Try.prog := { ps := [], es := [], is := [], n0 := 3, loops := fun _ => none, cuts := fun _ => none }
def lnT (l : GL) (now k : Int) (y : CL) (c : List SA) : St := ⟨43, [(0, .one (.a (.ptr 0 0))), (1, int_ .i64 now), (4, .one (.a (.ptr 3 0))), (5, .one (.a (.gcl 12 l.base l.cyc 4 2 0 l.len y.cap))), (6, .one (.a (.ptr 5 0))), (14, int_ .i64 k)], nM l ++ [some ⟨true, .flat z8⟩, rwS y, some ⟨true, .flat c⟩]⟩
noncomputable abbrev laLn (l : GL) (now : Int) : LA where
  ι := ML
  inv := fun x => CS l.len l x.y
  T := fun x => match x with
    | .m0 y => lnT l now 0 y (lfC l 0 false now (.m0 y))
    | .m1 y => lnT l now 1 y (lfC l 0 false now (.m1 y))
    | .m2 y => lnT l now 2 y (lfC l 0 false now (.m2 y))
    | .m3 y => lnT l now 3 y (lfC l 0 false now (.m3 y))
    | .m4 y => lnT l now 4 y (lfC l 0 false now (.m4 y))
    | .m5 y => lnT l now 5 y (lfC l 0 false now (.m5 y))
    | .m6 y => lnT l now 6 y (lfC l 0 false now (.m6 y))
    | .m7 y => lnT l now 7 y (lfC l 0 false now (.m7 y))
    | .m8 y => lnT l now 8 y (lfC l 0 false now (.m8 y))
  μ := fun x => 8 - x.k
  ren := fun S => [0, 1, 2, S.ix 4, gcX S, S.ix 6]
noncomputable abbrev laAn (l : GL) (now : Int) : LA where
  ι := CL
  inv := fun y => CS l.len l y
  T := fun y => ⟨43, [(0, .one (.a (.ptr 0 0))), (1, int_ .i64 now), (4, .one (.a (.ptr 3 0))), (5, .one (.a (.gcl 12 l.base l.cyc 4 2 0 l.len y.cap)))], nM l ++ [some ⟨true, .flat z8⟩, rwS y]⟩
  μ := fun _ => 0
  ren := fun S => [0, 1, 2, S.ix 4, gcX S]
section
attribute [local irreducible] anyAlt leftV Gw enter lfV
set_option maxHeartbeats 8000000 in
theorem atN_runs (x : GL × Int) (hi : NOK x.1 ∧ True) : Runs cxAtN Try.f28 (nArgs x) (nM x.1) fun v m => ghosted (fun _ _ => []) v m fun v m => anyAlt (nM x.1) [0, 1, 2, vIx v] v m [.fam CL (fun y => CS x.1.len x.1 y) (fun y => cpN x.1 y) (fun y => nM x.1 ++ [rwS y])] := by
  obtain ⟨l, now⟩ := x
  obtain ⟨hi, _⟩ := hi
  obtain ⟨lb, lcy, l1, l2, l3, l4⟩ := hi.lg.out
  have l64 : l.len ≤ 64 := (chk_ok hi.lc).n2
  repeat' (first | with_reducible exact trivial | with_reducible exact rfl | with_reducible exact Nat.le_refl _ | with_reducible exact (fun _ _ => rfl) | ((conv => whnf); first | (refine fun (x : Nat) => ?_) | (exact fun h => absurd h (by decide)) | (intro h9; (have h8 := of_decide_eq_true (p := type_of% h9) (by decide)); clear h8 h9) | (refine fun _ => ?_) | refine ⟨?_, ?_⟩ | exact trivial | exact Nat.le_refl _ | exact lex_q (by kernel_rfl) | exact lex_t (by kernel_rfl) | exact lex_h (by kernel_rfl) | fail))
  all_goals (try dsimp only at *)
  all_goals (try decide)
  all_goals (try omega)
  all_goals (conv => whnf)
  · refine alt_fam (α := CL) ⟨_, _, _⟩ ?_ (by (repeat' (first | ((conv => whnf); first | refine ⟨?_, ?_⟩ | exact trivial | fail) | (dsimp only; done) | ((try dsimp only); first | with_reducible exact rfl | exact Nat.le_refl _ | with_reducible exact (fun _ _ => rfl)))); all_goals (rfl))
    exact ⟨by assumption, by omega, fun r hr => ⟨app_at hr, app_at hr⟩⟩
end
noncomputable def atN : ESpec Try.prog := effN fn28 (GL × Int) (fun _ => cxAtN) (fun x => nM x.1) nArgs rdN (fun x => NOK x.1 ∧ True) (fun x => [.fam CL (fun y => CS x.1.len x.1 y) (fun y => cpN x.1 y) (fun y => nM x.1 ++ [rwS y])]) (fun _ _ => []) (fun _ v _ => [0, 1, 2, vIx v]) (fun _ => rfl) rdN_ok (fun x a ha => by
  rw [List.mem_singleton.1 ha]; exact fun _ => rfl) atN_runs
noncomputable def cxLn (l : GL) (now : Int) : Cx Try.prog := { ps := [leftS], es := [atN], is := [], n0 := 3, loops := fun i => match i with | 4 => some (.inv (laLn l now)) | _ => none, cuts := fun i => match i with | 2 => some (laAn l now) | _ => none }
section
attribute [local irreducible] anyAlt leftV Gw enter lfV
set_option maxHeartbeats 8000000 in
theorem lfN_runs (l : GL) (now : Int) (hi : NOK l) : Runs (cxLn l now) Try.f29 (nArgs (l, now)) (nM l) fun v m => ghosted (fun _ _ => []) v m fun v m => anyAlt (nM l) [0, 1, 2] v m [.one (a8C (lf8 l 0 false now)) (nM l)] := by
  have l64 : l.len ≤ 64 := (chk_ok hi.lc).n2
  repeat' (first | with_reducible exact trivial | with_reducible exact rfl | with_reducible exact Nat.le_refl _ | with_reducible exact (fun _ _ => rfl) | ((conv => whnf); first | ((refine fun (x : ML) => ?_); rcases x with x | x | x | x | x | x | x | x | x) | (refine fun (y : CL) => ?_) | (refine fun (z : Nat) => ?_) | (exact fun h => absurd h (by decide)) | (intro h9; (have h8 := of_decide_eq_true (p := type_of% h9) (by decide)); clear h8 h9) | (refine fun _ => ?_) | refine ⟨?_, ?_⟩ | exact trivial | exact Nat.le_refl _ | exact lex_q (by kernel_rfl) | exact lex_t (by kernel_rfl) | exact lex_h (by kernel_rfl) | fail))
  all_goals (try exact hi.lc)
  all_goals (try exact hi.lg)
  all_goals (try exact hi)
  all_goals (try decide)
  all_goals (try omega)
  · (conv => whnf); refine enter_mk (la := laAn l now) _ ?_ (by (repeat' (first | ((conv => whnf); first | refine ⟨?_, ?_⟩ | exact trivial | fail) | (dsimp only; done) | ((try dsimp only); first | with_reducible exact rfl | exact Nat.le_refl _ | with_reducible exact (fun _ _ => rfl)))); all_goals (rfl))
    assumption
  · (conv => whnf); refine enter_mk (la := laLn l now) (.m0 y) ?_ (by (repeat' (first | ((conv => whnf); first | refine ⟨?_, ?_⟩ | exact trivial | fail) | (dsimp only; done) | ((try dsimp only); first | with_reducible exact rfl | exact Nat.le_refl _ | with_reducible exact (fun _ _ => rfl)))); all_goals (rfl))
    assumption
  · exact cp_gw (l := l) (y := x) (by assumption) hi.lg
  · (conv => whnf); refine enter_mk (la := laLn l now) (.m1 x) ?_ (by (repeat' (first | ((conv => whnf); first | refine ⟨?_, ?_⟩ | exact trivial | fail) | (dsimp only; done) | ((try dsimp only); first | with_reducible exact rfl | exact Nat.le_refl _ | with_reducible exact (fun _ _ => rfl)))); all_goals ((first | rfl | exact (lfV_n (by first | assumption | rfl) (cp_left (l := l) (y := x) (by assumption) _ _)).symm | decide)))
    assumption
  · exact cp_gw (l := l) (y := x) (by assumption) hi.lg
  · (conv => whnf); refine enter_mk (la := laLn l now) (.m2 x) ?_ (by (repeat' (first | ((conv => whnf); first | refine ⟨?_, ?_⟩ | exact trivial | fail) | (dsimp only; done) | ((try dsimp only); first | with_reducible exact rfl | exact Nat.le_refl _ | with_reducible exact (fun _ _ => rfl)))); all_goals ((first | rfl | exact (lfV_n (by first | assumption | rfl) (cp_left (l := l) (y := x) (by assumption) _ _)).symm | decide)))
    assumption
  · exact cp_gw (l := l) (y := x) (by assumption) hi.lg
  · (conv => whnf); refine enter_mk (la := laLn l now) (.m3 x) ?_ (by (repeat' (first | ((conv => whnf); first | refine ⟨?_, ?_⟩ | exact trivial | fail) | (dsimp only; done) | ((try dsimp only); first | with_reducible exact rfl | exact Nat.le_refl _ | with_reducible exact (fun _ _ => rfl)))); all_goals ((first | rfl | exact (lfV_n (by first | assumption | rfl) (cp_left (l := l) (y := x) (by assumption) _ _)).symm | decide)))
    assumption
  · exact cp_gw (l := l) (y := x) (by assumption) hi.lg
  · (conv => whnf); refine enter_mk (la := laLn l now) (.m4 x) ?_ (by (repeat' (first | ((conv => whnf); first | refine ⟨?_, ?_⟩ | exact trivial | fail) | (dsimp only; done) | ((try dsimp only); first | with_reducible exact rfl | exact Nat.le_refl _ | with_reducible exact (fun _ _ => rfl)))); all_goals ((first | rfl | exact (lfV_n (by first | assumption | rfl) (cp_left (l := l) (y := x) (by assumption) _ _)).symm | decide)))
    assumption
  · exact cp_gw (l := l) (y := x) (by assumption) hi.lg
  · (conv => whnf); refine enter_mk (la := laLn l now) (.m5 x) ?_ (by (repeat' (first | ((conv => whnf); first | refine ⟨?_, ?_⟩ | exact trivial | fail) | (dsimp only; done) | ((try dsimp only); first | with_reducible exact rfl | exact Nat.le_refl _ | with_reducible exact (fun _ _ => rfl)))); all_goals ((first | rfl | exact (lfV_n (by first | assumption | rfl) (cp_left (l := l) (y := x) (by assumption) _ _)).symm | decide)))
    assumption
  · exact cp_gw (l := l) (y := x) (by assumption) hi.lg
  · (conv => whnf); refine enter_mk (la := laLn l now) (.m6 x) ?_ (by (repeat' (first | ((conv => whnf); first | refine ⟨?_, ?_⟩ | exact trivial | fail) | (dsimp only; done) | ((try dsimp only); first | with_reducible exact rfl | exact Nat.le_refl _ | with_reducible exact (fun _ _ => rfl)))); all_goals ((first | rfl | exact (lfV_n (by first | assumption | rfl) (cp_left (l := l) (y := x) (by assumption) _ _)).symm | decide)))
    assumption
  · exact cp_gw (l := l) (y := x) (by assumption) hi.lg
  · (conv => whnf); refine enter_mk (la := laLn l now) (.m7 x) ?_ (by (repeat' (first | ((conv => whnf); first | refine ⟨?_, ?_⟩ | exact trivial | fail) | (dsimp only; done) | ((try dsimp only); first | with_reducible exact rfl | exact Nat.le_refl _ | with_reducible exact (fun _ _ => rfl)))); all_goals ((first | rfl | exact (lfV_n (by first | assumption | rfl) (cp_left (l := l) (y := x) (by assumption) _ _)).symm | decide)))
    assumption
  · exact cp_gw (l := l) (y := x) (by assumption) hi.lg
  · (conv => whnf); refine enter_mk (la := laLn l now) (.m8 x) ?_ (by (repeat' (first | ((conv => whnf); first | refine ⟨?_, ?_⟩ | exact trivial | fail) | (dsimp only; done) | ((try dsimp only); first | with_reducible exact rfl | exact Nat.le_refl _ | with_reducible exact (fun _ _ => rfl)))); all_goals ((first | rfl | exact (lfV_n (by first | assumption | rfl) (cp_left (l := l) (y := x) (by assumption) _ _)).symm | decide)))
    assumption
  · (conv => whnf)
    refine alt_o1  ?_ (by (repeat' (first | ((conv => whnf); first | refine ⟨?_, ?_⟩ | exact trivial | fail) | (dsimp only; done) | ((try dsimp only); first | with_reducible exact rfl | exact Nat.le_refl _ | with_reducible exact (fun _ _ => rfl)))); all_goals (rfl))
    exact trivial
end
noncomputable def lfN : ESpec Try.prog := effN fn29 (GL × Int) (fun x => cxLn x.1 x.2) (fun x => nM x.1) nArgs rdN (fun x => NOK x.1 ∧ True) (fun x => [.one (a8C (lf8 x.1 0 false x.2)) (nM x.1)]) (fun _ _ => []) (fun _ _ _ => [0, 1, 2]) (fun _ => rfl) rdN_ok (fun x a ha => by
  rw [List.mem_singleton.1 ha]; exact rfl) (fun x hi => lfN_runs x.1 x.2 hi.1)

end Go.Proofs.Ytaadejgoafdbcaa
