/-
  Contracts of functions, and plain facts about them, that a claim of this seat uses.
-/
import Derived.Test.YtnkmfkongmijfaaSx
import Derived.Test.YtnkmfkongmijfaaFdbZ
import Derived.Test.YtnkmfkongmijfaaProg
namespace Go.Proofs.Ytnkmfkongmijfaa
open Go.Sx
set_option linter.unusedVariables false
set_option linter.unusedSimpArgs false
set_option maxRecDepth 100000

/-! fdb: the program's methods on no table at all. -/
noncomputable def cxN : Cx Try.prog := { ps := [vidS, grpS], es := [], is := [], n0 := 0, loops := fun _ => none, cuts := fun _ => none, xr := xrs, xa := xas }
def nil_ : SV := .one (.a (.v (.pointer none)))
section
attribute [local irreducible] Lex HeldOK
set_option maxHeartbeats 4000000 in
theorem inN_runs (_ : Unit) (_ : obp (some True)) : Runs cxN Try.f19 [nil_, int_ .i64 0, .one (.a .ff), int_ .i64 0, int_ .i64 0] [] fun v _ => isRes (.tup [.a (i_ 0), .a (i_ 0), .a (i_ 1)]) v := by
  repeat' (first | with_reducible exact trivial | with_reducible exact rfl | with_reducible exact Nat.le_refl _ | with_reducible exact (fun _ _ => rfl) | ((conv => whnf); first | (refine fun _ => ?_) | refine ⟨?_, ?_⟩ | exact trivial | exact Nat.le_refl _ | exact lex_q (by kernel_rfl) | exact lex_t (by kernel_rfl) | exact lex_h (by kernel_rfl) | fail))
noncomputable def inN : PSpec Try.prog := pureSpec fn19 cxN rfl Unit (fun l => match l with | [.one (.a (.v (.pointer none))), .one (.a (.v (.int .i64 0))), .one (.a .ff), .one (.a (.v (.int .i64 0))), .one (.a (.v (.int .i64 0)))] => some () | _ => none) (fun _ => [nil_, int_ .i64 0, .one (.a .ff), int_ .i64 0, int_ .i64 0]) (fun _ => some True) (fun _ => .tup [.a (i_ 0), .a (i_ 0), .a (i_ 1)]) (fun l x h => by
  split at h
  · rfl
  · cases h) (fun _ => rfl) (fun _ => rfl) inN_runs
set_option maxHeartbeats 4000000 in
theorem otN_runs (_ : Unit) (_ : obp (some True)) : Runs cxN Try.f12 [nil_, int_ .i64 0, .one (.agg [i_ 1, u_ 0, u_ 0, u_ 0, u_ 0, u_ 0, u_ 0])] [] fun v _ => isRes (.tup [.a (i_ 0), .a (i_ 0)]) v := by
  repeat' (first | with_reducible exact trivial | with_reducible exact rfl | with_reducible exact Nat.le_refl _ | with_reducible exact (fun _ _ => rfl) | ((conv => whnf); first | (refine fun _ => ?_) | refine ⟨?_, ?_⟩ | exact trivial | exact Nat.le_refl _ | exact lex_q (by kernel_rfl) | exact lex_t (by kernel_rfl) | exact lex_h (by kernel_rfl) | fail))
noncomputable def otN : PSpec Try.prog := pureSpec fn12 cxN rfl Unit (fun l => match l with | [.one (.a (.v (.pointer none))), .one (.a (.v (.int .i64 0))), .one (.agg [.v (.int .i64 1), .v (.int .u8 0), .v (.int .u8 0), .v (.int .u8 0), .v (.int .u8 0), .v (.int .u8 0), .v (.int .u8 0)])] => some () | _ => none) (fun _ => [nil_, int_ .i64 0, .one (.agg [i_ 1, u_ 0, u_ 0, u_ 0, u_ 0, u_ 0, u_ 0])]) (fun _ => some True) (fun _ => .tup [.a (i_ 0), .a (i_ 0)]) (fun l x h => by
  split at h
  · rfl
  · cases h) (fun _ => rfl) (fun _ => rfl) otN_runs
set_option maxHeartbeats 4000000 in
theorem flN_runs (_ : Unit) (_ : obp (some True)) : Runs cxN Try.f14 [nil_, int_ .i64 0] [] fun v _ => isRes (.tup []) v := by
  repeat' (first | with_reducible exact trivial | with_reducible exact rfl | with_reducible exact Nat.le_refl _ | with_reducible exact (fun _ _ => rfl) | ((conv => whnf); first | (refine fun _ => ?_) | refine ⟨?_, ?_⟩ | exact trivial | exact Nat.le_refl _ | exact lex_q (by kernel_rfl) | exact lex_t (by kernel_rfl) | exact lex_h (by kernel_rfl) | fail))
noncomputable def flN : PSpec Try.prog := pureSpec fn14 cxN rfl Unit (fun l => match l with | [.one (.a (.v (.pointer none))), .one (.a (.v (.int .i64 0)))] => some () | _ => none) (fun _ => [nil_, int_ .i64 0]) (fun _ => some True) (fun _ => .tup []) (fun l x h => by
  split at h
  · rfl
  · cases h) (fun _ => rfl) (fun _ => rfl) flN_runs
set_option maxHeartbeats 4000000 in
theorem lnN_runs (_ : Unit) (_ : obp (some True)) : Runs cxN Try.f15 [nil_] [] fun v _ => isRes (int_ .i64 0) v := by
  repeat' (first | with_reducible exact trivial | with_reducible exact rfl | with_reducible exact Nat.le_refl _ | with_reducible exact (fun _ _ => rfl) | ((conv => whnf); first | (refine fun _ => ?_) | refine ⟨?_, ?_⟩ | exact trivial | exact Nat.le_refl _ | exact lex_q (by kernel_rfl) | exact lex_t (by kernel_rfl) | exact lex_h (by kernel_rfl) | fail))
noncomputable def lnN : PSpec Try.prog := pureSpec fn15 cxN rfl Unit (fun l => match l with | [.one (.a (.v (.pointer none)))] => some () | _ => none) (fun _ => [nil_]) (fun _ => some True) (fun _ => int_ .i64 0) (fun l x h => by
  split at h
  · rfl
  · cases h) (fun _ => rfl) (fun _ => rfl) lnN_runs
set_option maxHeartbeats 4000000 in
theorem agN_runs (_ : Unit) (_ : obp (some True)) : Runs cxN Try.f16 [nil_, int_ .i64 9] [] fun v _ => isRes (int_ .i64 0) v := by
  repeat' (first | with_reducible exact trivial | with_reducible exact rfl | with_reducible exact Nat.le_refl _ | with_reducible exact (fun _ _ => rfl) | ((conv => whnf); first | (refine fun _ => ?_) | refine ⟨?_, ?_⟩ | exact trivial | exact Nat.le_refl _ | exact lex_q (by kernel_rfl) | exact lex_t (by kernel_rfl) | exact lex_h (by kernel_rfl) | fail))
noncomputable def agN : PSpec Try.prog := pureSpec fn16 cxN rfl Unit (fun l => match l with | [.one (.a (.v (.pointer none))), .one (.a (.v (.int .i64 9)))] => some () | _ => none) (fun _ => [nil_, int_ .i64 9]) (fun _ => some True) (fun _ => int_ .i64 0) (fun l x h => by
  split at h
  · rfl
  · cases h) (fun _ => rfl) (fun _ => rfl) agN_runs
set_option maxHeartbeats 4000000 in
theorem lrN_runs (_ : Unit) (_ : obp (some True)) : Runs cxN Try.f13 [nil_, .one (.agg [i_ 1, u_ 0, u_ 0, u_ 0, u_ 0, u_ 0, u_ 0]), int_ .i64 0, int_ .i64 0] [] fun v _ => isRes (int_ .i64 1) v := by
  repeat' (first | with_reducible exact trivial | with_reducible exact rfl | with_reducible exact Nat.le_refl _ | with_reducible exact (fun _ _ => rfl) | ((conv => whnf); first | (refine fun _ => ?_) | refine ⟨?_, ?_⟩ | exact trivial | exact Nat.le_refl _ | exact lex_q (by kernel_rfl) | exact lex_t (by kernel_rfl) | exact lex_h (by kernel_rfl) | fail))
noncomputable def lrN : PSpec Try.prog := pureSpec fn13 cxN rfl Unit (fun l => match l with | [.one (.a (.v (.pointer none))), .one (.agg [.v (.int .i64 1), .v (.int .u8 0), .v (.int .u8 0), .v (.int .u8 0), .v (.int .u8 0), .v (.int .u8 0), .v (.int .u8 0)]), .one (.a (.v (.int .i64 0))), .one (.a (.v (.int .i64 0)))] => some () | _ => none) (fun _ => [nil_, .one (.agg [i_ 1, u_ 0, u_ 0, u_ 0, u_ 0, u_ 0, u_ 0]), int_ .i64 0, int_ .i64 0]) (fun _ => some True) (fun _ => int_ .i64 1) (fun l x h => by
  split at h
  · rfl
  · cases h) (fun _ => rfl) (fun _ => rfl) lrN_runs
set_option maxHeartbeats 4000000 in
theorem spN_runs (_ : Unit) (_ : obp (some True)) : Runs cxN Try.f17 [nil_, .one (.agg [i_ 1, u_ 0, u_ 0, u_ 0, u_ 0, u_ 0, u_ 0]), int_ .i64 1] [] fun v _ => isRes (int_ .i64 1) v := by
  repeat' (first | with_reducible exact trivial | with_reducible exact rfl | with_reducible exact Nat.le_refl _ | with_reducible exact (fun _ _ => rfl) | ((conv => whnf); first | (refine fun _ => ?_) | refine ⟨?_, ?_⟩ | exact trivial | exact Nat.le_refl _ | exact lex_q (by kernel_rfl) | exact lex_t (by kernel_rfl) | exact lex_h (by kernel_rfl) | fail))
noncomputable def spN : PSpec Try.prog := pureSpec fn17 cxN rfl Unit (fun l => match l with | [.one (.a (.v (.pointer none))), .one (.agg [.v (.int .i64 1), .v (.int .u8 0), .v (.int .u8 0), .v (.int .u8 0), .v (.int .u8 0), .v (.int .u8 0), .v (.int .u8 0)]), .one (.a (.v (.int .i64 1)))] => some () | _ => none) (fun _ => [nil_, .one (.agg [i_ 1, u_ 0, u_ 0, u_ 0, u_ 0, u_ 0, u_ 0]), int_ .i64 1]) (fun _ => some True) (fun _ => int_ .i64 1) (fun l x h => by
  split at h
  · rfl
  · cases h) (fun _ => rfl) (fun _ => rfl) spN_runs
set_option maxHeartbeats 4000000 in
theorem svN_runs (_ : Unit) (_ : obp (some True)) : Runs cxN Try.f11 [nil_, int_ .i64 1, .one (.agg [i_ 0, i_ 0])] [] fun v _ => isRes (int_ .i64 1) v := by
  repeat' (first | with_reducible exact trivial | with_reducible exact rfl | with_reducible exact Nat.le_refl _ | with_reducible exact (fun _ _ => rfl) | ((conv => whnf); first | (refine fun _ => ?_) | refine ⟨?_, ?_⟩ | exact trivial | exact Nat.le_refl _ | exact lex_q (by kernel_rfl) | exact lex_t (by kernel_rfl) | exact lex_h (by kernel_rfl) | fail))
noncomputable def svN : PSpec Try.prog := pureSpec fn11 cxN rfl Unit (fun l => match l with | [.one (.a (.v (.pointer none))), .one (.a (.v (.int .i64 1))), .one (.agg [.v (.int .i64 0), .v (.int .i64 0)])] => some () | _ => none) (fun _ => [nil_, int_ .i64 1, .one (.agg [i_ 0, i_ 0])]) (fun _ => some True) (fun _ => int_ .i64 1) (fun l x h => by
  split at h
  · rfl
  · cases h) (fun _ => rfl) (fun _ => rfl) svN_runs
set_option maxHeartbeats 4000000 in
theorem stN_runs (_ : Unit) (_ : obp (some True)) : Runs cxN Try.f18 [nil_, int_ .i64 0, .one (.agg [i_ 1, i_ 0, i_ 0, i_ 0, i_ 0, i_ 0, i_ 0, i_ 0, i_ 0])] [] fun v _ => isRes (int_ .i64 1) v := by
  repeat' (first | with_reducible exact trivial | with_reducible exact rfl | with_reducible exact Nat.le_refl _ | with_reducible exact (fun _ _ => rfl) | ((conv => whnf); first | (refine fun _ => ?_) | refine ⟨?_, ?_⟩ | exact trivial | exact Nat.le_refl _ | exact lex_q (by kernel_rfl) | exact lex_t (by kernel_rfl) | exact lex_h (by kernel_rfl) | fail))
noncomputable def stN : PSpec Try.prog := pureSpec fn18 cxN rfl Unit (fun l => match l with | [.one (.a (.v (.pointer none))), .one (.a (.v (.int .i64 0))), .one (.agg [.v (.int .i64 1), .v (.int .i64 0), .v (.int .i64 0), .v (.int .i64 0), .v (.int .i64 0), .v (.int .i64 0), .v (.int .i64 0), .v (.int .i64 0), .v (.int .i64 0)])] => some () | _ => none) (fun _ => [nil_, int_ .i64 0, .one (.agg [i_ 1, i_ 0, i_ 0, i_ 0, i_ 0, i_ 0, i_ 0, i_ 0, i_ 0])]) (fun _ => some True) (fun _ => int_ .i64 1) (fun l x h => by
  split at h
  · rfl
  · cases h) (fun _ => rfl) (fun _ => rfl) stN_runs
end

end Go.Proofs.Ytnkmfkongmijfaa
