/-
  Contracts of functions, and plain facts about them, that a claim of this seat uses.
-/
import Derived.Test.YtaadejgoafdbcaaSx
import Derived.Test.YtaadejgoafdbcaaPortF
import Derived.Test.YtaadejgoafdbcaaProg
namespace Go.Proofs.Ytaadejgoafdbcaa
open Go.Sx
set_option linter.unusedVariables false
set_option linter.unusedSimpArgs false
set_option maxRecDepth 100000

/-! the port's New. -/
def yOf (m : Mem) (i : Nat) : CL := match (m[i]? : Option (Option Reg)) with | some (some ⟨_, .tab N [.int _ op, .int _ ln]⟩) => ⟨N, op, ln⟩ | _ => ⟨0, fun _ => 0, fun _ => 0⟩
def pn0 (l : GL) (a : A8) (y : CL) : Pt := ⟨cp l y, glN, 0, false, new0 a⟩
noncomputable def pnGs (l : GL) (a : A8) (v : SV) (m : Mem) : List GC := match v with
  | .tup [.a (.ptr o _), _] => [.nil o 5 2 slCols, .box [o, mixO m o 2, m.length, mixO m o 8] 69 (ptP (pn0 l a (yOf m (mixO m o 2)))) ptK ()]
  | _ => []
def pnRen (v : SV) : List Nat := match v with | .tup [.a (.ptr o _), _] => [0, o] | _ => [0]
noncomputable def pnAlts (l : GL) (a : A8) : List Alt := [.fam CL (fun y => (chk l = 0 ∧ roomsOK a) ∧ CS l.len l y) (fun _ => .tup [.a (.ptr 1 0), .a (i_ 0)]) (fun y => [roG l, some ⟨true, .obj 69 (ptP (pn0 l a y)) (boxI ptK)⟩]), .cond (¬ (chk l = 0 ∧ roomsOK a)) (.tup [.a (.v (.pointer none)), .a (i_ (if chk l = 0 then 1 else chk l))]) [roG l]]
noncomputable def cxPn : Cx Try.prog := { ps := [chkS], es := [newS, atN], is := [], n0 := 1, loops := fun _ => none, cuts := fun _ => none }
theorem pn_inv {l : GL} {a : A8} {y : CL} (h : chk l = 0) (hl : Gw l) (hc : CS l.len l y) : ptK.inv (ptP (pn0 l a y)) () :=
  ⟨(show Gw (cp l y) from cp_gw hc hl), (show chk (cp l y) = 0 from (cp_chk hc).trans h), glN_gw, fun hh => absurd hh (by show ¬ (false = true); decide), ⟨Int.le_refl _, (by decide : (0 : Int) ≤ 4398046511104)⟩⟩
theorem pn_e1 {l : GL} (h : ¬ chk l = 0) : (if chk l = 0 then (1 : Int) else chk l) = chk l := if_neg h
theorem pn_e2 {l : GL} (h : chk l = 0) : (if chk l = 0 then (1 : Int) else chk l) = 1 := if_pos h
section
attribute [local irreducible] anyAlt Gw enter chk roomsOK
set_option maxHeartbeats 8000000 in
theorem pn_runs (l : GL) (a : A8) (hl : Gw l) : Runs cxPn Try.f8 (mkArgs 0 [Lens.gl.arg l, Lens.a8.arg a]) (mkMem [Lens.gl.arg l, Lens.a8.arg a]) fun v m => ghosted (pnGs l a) v m fun v m => anyAlt (mkMem [Lens.gl.arg l, Lens.a8.arg a]) (pnRen v) v m (pnAlts l a) := by
  repeat' (first | with_reducible exact trivial | with_reducible exact rfl | with_reducible exact Nat.le_refl _ | with_reducible exact (fun _ _ => rfl) | ((conv => whnf); first | (refine fun (x : CL) => ?_) | (refine fun (y : Nat) => ?_) | (exact fun h => absurd h (by decide)) | (intro h9; (have h8 := of_decide_eq_true (p := type_of% h9) (by decide)); clear h8 h9) | (refine fun _ => ?_) | refine ⟨?_, ?_⟩ | exact trivial | exact Nat.le_refl _ | exact lex_q (by kernel_rfl) | exact lex_t (by kernel_rfl) | exact lex_h (by kernel_rfl) | fail))
  all_goals (try exact hl)
  all_goals (try exact (Decidable.not_not.1 (by assumption) : chk l = 0))
  all_goals (try exact pn_inv (l := l) (a := a) (y := x) (Decidable.not_not.1 (by assumption)) hl (by assumption))
  all_goals (try exact rfl)
  all_goals (try exact fun _ _ => rfl)
  all_goals (conv => whnf)
  · refine alt_c2  ?_ (by (repeat' (first | ((conv => whnf); first | refine ⟨?_, ?_⟩ | exact trivial | fail) | (dsimp only; done) | ((try dsimp only); first | with_reducible exact rfl | exact Nat.le_refl _ | with_reducible exact (fun _ _ => rfl)))); all_goals ((first | rfl | exact fun _ _ => rfl | exact pn_e1 (by assumption))))
    exact fun hh => absurd hh.1 (by assumption)
  · refine alt_f1 (α := CL) x ?_ (by (repeat' (first | ((conv => whnf); first | refine ⟨?_, ?_⟩ | exact trivial | fail) | (dsimp only; done) | ((try dsimp only); first | with_reducible exact rfl | exact Nat.le_refl _ | with_reducible exact (fun _ _ => rfl)))); all_goals ((first | rfl | exact fun _ _ => rfl | skip)))
    exact ⟨⟨Decidable.not_not.1 (by assumption), by assumption⟩, by assumption⟩
  · refine alt_c2  ?_ (by (repeat' (first | ((conv => whnf); first | refine ⟨?_, ?_⟩ | exact trivial | fail) | (dsimp only; done) | ((try dsimp only); first | with_reducible exact rfl | exact Nat.le_refl _ | with_reducible exact (fun _ _ => rfl)))); all_goals ((first | rfl | exact fun _ _ => rfl | exact pn_e2 (Decidable.not_not.1 (by assumption)))))
    exact fun hh => absurd hh.2 (by assumption)
end
noncomputable def pnS : ESpec Try.prog := newG fn8 (.s2 Lens.gl Lens.a8) (fun _ => cxPn) (fun x => some (Gw x.1)) (fun x => pnAlts x.1 x.2) (fun x v m => pnGs x.1 x.2 v m) (fun _ v _ => pnRen v) (fun _ => rfl) (fun x al hal => by
  rcases List.mem_cons.1 hal with rfl | hal
  · exact fun _ => rfl
  · rw [List.mem_singleton.1 hal]; exact rfl) (fun x hl => pn_runs x.1 x.2 hl)

end Go.Proofs.Ytaadejgoafdbcaa
