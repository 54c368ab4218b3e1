/-
  Contracts of functions, and plain facts about them, that a claim of this seat uses.
-/
import Derived.Test.YtnkmfkongmijfaaSx
import Derived.Test.YtnkmfkongmijfaaFdbY
import Derived.Test.YtnkmfkongmijfaaProg
namespace Go.Proofs.Ytnkmfkongmijfaa
open Go.Sx
set_option linter.unusedVariables false
set_option linter.unusedSimpArgs false
set_option maxRecDepth 100000

/-! fdb: the reference's New. -/
theorem fn20 : FnOf Try.prog 20 Try.f20 := ⟨Try.func20, rfl, rfl, mixed⟩
def nilV : SA := .v (.slice none 0 0)
def pt0 : Pt := ⟨1, 0, 1, 2, 3, 4, 5, 6, 7⟩
structure PNW (n : Nat) (y : PC) : Prop where
  l : y.len = n
  s : SlR y.len y.cap y.cap
  e : ∀ r, r < n → pcR y r = pt0
def rnL (y : Int × Int) (p : PC) : List SA := [i_ y.1, i_ y.2, nilV, slP 0 p, nilV]
def rnA (y : Int × Int) : List Alt := [.cond (¬ nOK y.1 y.2) (.tup [.agg zT, .a .ff]) [], .fam PC (fun p => nOK y.1 y.2 ∧ PNW y.1.toNat p) (fun p => .tup [.agg (rnL y p), .a .tt]) (fun p => [rwP p])]
def rnRen (v : SV) : List Nat := match v with | .tup [.agg l, _] => (match (l[3]? : Option SA) with | some (.slc i _ _ _ _) => [i] | _ => []) | _ => []
structure PZ where
  i : Nat
  p : PC
abbrev laRn (n room : Int) : LA where
  ι := Option PZ
  inv := fun o => nOK n room ∧ match o with | none => True | some x => 1 ≤ x.i ∧ x.i ≤ n.toNat ∧ PNW x.i x.p
  T := fun o => match o with
    | none => ⟨38, [(0, int_ .i64 n), (4, .one (.a (.ptr 0 0))), (6, .one (.a (.ptr 1 0))), (7, int_ .i64 0)], [some ⟨true, .flat zT⟩, some ⟨true, .flat [i_ n, i_ room, nilV, nilV, nilV]⟩]⟩
    | some x => ⟨38, [(0, int_ .i64 n), (4, .one (.a (.ptr 0 0))), (6, .one (.a (.ptr 1 0))), (7, int_ .i64 x.i)], [some ⟨true, .flat zT⟩, some ⟨true, .flat [i_ n, i_ room, nilV, .slc 2 9 0 x.i x.p.cap, nilV]⟩, rwP x.p]⟩
  μ := fun o => match o with | none => n.toNat + 1 | some x => n.toNat - x.i
  ren := fun S => match S.t.get 35 with | some v => [S.ix 4, S.ix 6, v.ix] | none => [S.ix 4, S.ix 6]
noncomputable def cxRn (y : Int × Int) : Cx Try.prog := { ps := [], es := [], is := [], n0 := 0, loops := fun i => match i with | 5 => some (.inv (laRn y.1 y.2)) | _ => none, cuts := fun _ => none }
section
attribute [local irreducible] enter anyAlt Lex HeldOK nOK
set_option maxHeartbeats 8000000 in
theorem rn_runs (y : Int × Int) (hp : obp none) : Runs (cxRn y) Try.f20 [int_ .i64 y.1, int_ .i64 y.2] [] fun v m => anyAlt [] (rnRen v) v m (rnA y) := by
  obtain ⟨n, room⟩ := y
  dsimp only at *
  repeat' (first | with_reducible exact trivial | with_reducible exact rfl | with_reducible exact Nat.le_refl _ | with_reducible exact (fun _ _ => rfl) | ((conv => whnf); first | ((refine fun (x : Option PZ) => ?_); rcases x with _ | x) | (exact fun h => absurd h (by decide)) | (intro h9; (have h8 := of_decide_eq_true (p := type_of% h9) (by decide)); clear h8 h9) | (refine fun _ => ?_) | refine ⟨?_, ?_⟩ | exact trivial | exact Nat.le_refl _ | exact lex_q (by kernel_rfl) | exact lex_t (by kernel_rfl) | exact lex_h (by kernel_rfl) | fail))
  all_goals (try (have hb : ¬ nOK n room := fun h9 => (by have h8 := nOK_out h9; omega)))
  all_goals (try (have hi := (by assumption : (laRn n room).inv none); have n1 := nOK_out hi.1))
  all_goals (try (have hi := (by assumption : (laRn n room).inv (some x)); have n1 := nOK_out hi.1; have i1 : 1 ≤ x.i := hi.2.1; have i2 : x.i ≤ n.toNat := hi.2.2.1; have i3 : PNW x.i x.p := hi.2.2.2; have i4 := i3.s.1; have i5 := i3.s.2.2; have i6 := i3.l))
  all_goals (try (exfalso; (try dsimp only at *); omega))
  all_goals (try omega)
  any_goals first
    | (refine alt_l ?_ (by (repeat' (first | with_reducible exact rfl | exact Nat.le_refl _ | with_reducible exact (fun _ _ => rfl) | ((conv => whnf); first | refine ⟨?_, ?_⟩ | exact trivial | fail))); first | ((all_goals ((try dsimp only [id] at *); (all_goals (try simp (disch := omega) only [w64', wu64', tdiv_pos, tmod_pos, Int.toNat_natCast, Nat.zero_add] at *)); (all_goals ((first | rfl))))); done) | fail))
    | (refine enter_mk (la := laRn n room) (none) ?_ (by (repeat' (first | ((conv => whnf); first | refine ⟨?_, ?_⟩ | exact trivial | fail) | (dsimp only; done) | ((try dsimp only); first | with_reducible exact rfl | exact Nat.le_refl _ | with_reducible exact (fun _ _ => rfl)))); first | ((all_goals ((try dsimp only [laRn] at *); (all_goals (try simp (disch := omega) only [w64', wu64', tdiv_pos, tmod_pos, Int.toNat_natCast, Nat.zero_add] at *)); (all_goals ((first | rfl | omega))))); done) | fail))
    | (refine enter_mk (la := laRn n room) (some ⟨1, ⟨1, _, 0, _, _, _, _, _, _, _, _, _⟩⟩) ?_ (by (repeat' (first | ((conv => whnf); first | refine ⟨?_, ?_⟩ | exact trivial | fail) | (dsimp only; done) | ((try dsimp only); first | with_reducible exact rfl | exact Nat.le_refl _ | with_reducible exact (fun _ _ => rfl)))); first | ((all_goals ((try dsimp only [laRn] at *); (all_goals (try simp (disch := omega) only [w64', wu64', tdiv_pos, tmod_pos, Int.toNat_natCast, Nat.zero_add] at *)); (all_goals ((first | rfl | omega))))); done) | fail))
    | (refine enter_mk (la := laRn n room) (some ⟨x.i + 1, ⟨x.i + 1, _, 0, _, _, _, _, _, _, _, _, _⟩⟩) ?_ (by (repeat' (first | ((conv => whnf); first | refine ⟨?_, ?_⟩ | exact trivial | fail) | (dsimp only; done) | ((try dsimp only); first | with_reducible exact rfl | exact Nat.le_refl _ | with_reducible exact (fun _ _ => rfl)))); first | ((all_goals ((try dsimp only [laRn] at *); (all_goals (try simp (disch := omega) only [w64', wu64', tdiv_pos, tmod_pos, Int.toNat_natCast, Nat.zero_add] at *)); (all_goals ((first | rfl | omega | (rw [w64' (by omega) (by omega)]; omega)))))); done) | fail))
    | (refine alt_s (alt_fam (α := PC) x.p ?_ (by (repeat' (first | with_reducible exact rfl | exact Nat.le_refl _ | with_reducible exact (fun _ _ => rfl) | ((conv => whnf); first | refine ⟨?_, ?_⟩ | exact trivial | fail))); first | ((all_goals ((try dsimp only [id] at *); (all_goals (try simp (disch := omega) only [w64', wu64', tdiv_pos, tmod_pos, Int.toNat_natCast, Nat.zero_add] at *)); (all_goals ((first | rfl | omega))))); done) | fail)))
    | skip
  all_goals (try exact hb)
  all_goals (try exact ⟨nOK_mk (by omega), trivial⟩)
  all_goals (try (refine ⟨hi.1, Nat.le_refl 1, ?_, ⟨rfl, ⟨?_, ?_, ?_⟩, fun r hr => ?_⟩⟩; (dsimp only at *; omega); (dsimp only; omega); (dsimp only; omega); (dsimp only; omega); dsimp only at hr; obtain rfl : r = 0 := (by omega); rfl))
  all_goals (try (refine ⟨hi.1, Nat.succ_pos _, ?_, ⟨rfl, ⟨?_, ?_, ?_⟩, fun r hr => ?_⟩⟩; (dsimp only at *; omega); (dsimp only; omega); (dsimp only; omega); (dsimp only; omega); dsimp only at hr; have i7 := i3.e; rcases (by omega : r < x.i ∨ r = x.i) with h8 | h8; (rw [← i7 r h8]; simp [pcR, h8]); (subst h8; simp [pcR, pt0])))
  all_goals (try (have hk : ¬ (x.i : Int) < n := (by assumption); have ex : n.toNat = x.i := (by omega); dsimp only; rw [ex]; exact ⟨hi.1, i3⟩))
noncomputable def rnS : ESpec Try.prog := newN fn20 (.s2 (.int .i64) (.int .i64)) cxRn (fun _ => none) rnA (fun _ v _ => rnRen v) (fun _ => rfl) (fun x a ha => by
  rcases List.mem_cons.1 ha with rfl | ha
  · exact rfl
  · rw [List.mem_singleton.1 ha]; exact fun _ => rfl) rn_runs
end

end Go.Proofs.Ytnkmfkongmijfaa
