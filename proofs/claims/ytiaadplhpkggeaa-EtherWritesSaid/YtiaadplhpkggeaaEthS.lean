/-
  Contracts of functions, and plain facts about them, that a claim of this seat uses.
-/
import Derived.Test.YtiaadplhpkggeaaSx
import Derived.Test.YtiaadplhpkggeaaFcsNum
import Derived.Test.YtiaadplhpkggeaaFcsBits
import Derived.Test.YtiaadplhpkggeaaFcsA
import Derived.Test.YtiaadplhpkggeaaFcsB
import Derived.Test.YtiaadplhpkggeaaFcsIn
import Derived.Test.YtiaadplhpkggeaaFcsC
import Derived.Test.YtiaadplhpkggeaaFcsJ
import Derived.Test.YtiaadplhpkggeaaFcsH
import Derived.Test.YtiaadplhpkggeaaEthNum
import Derived.Test.YtiaadplhpkggeaaEthA
import Derived.Test.YtiaadplhpkggeaaEthB
import Derived.Test.YtiaadplhpkggeaaEthD
import Derived.Test.YtiaadplhpkggeaaEthM
import Derived.Test.YtiaadplhpkggeaaEthR
import Derived.Test.YtiaadplhpkggeaaProg
namespace Go.Proofs.Ytiaadplhpkggeaa
open Go.Sx
set_option linter.unusedVariables false
set_option linter.unusedSimpArgs false
set_option maxRecDepth 100000

/-! frames: the reference's Same and Decode. -/
def sameF (f g : Fr) : Bool := decide (f.a0 = g.a0 ∧ f.a1 = g.a1 ∧ f.a2 = g.a2 ∧ f.a3 = g.a3 ∧ f.a4 = g.a4 ∧ f.a5 = g.a5 ∧ f.b0 = g.b0 ∧ f.b1 = g.b1 ∧ f.b2 = g.b2 ∧ f.b3 = g.b3 ∧ f.b4 = g.b4 ∧ f.b5 = g.b5 ∧ f.tg = g.tg ∧ f.vid = g.vid ∧ f.prio = g.prio ∧ f.drop = g.drop ∧ f.many = g.many ∧ f.seq = g.seq ∧ f.typ = g.typ) && sameB f.data g.data
theorem eq23 : EqOK Try.prog 23 := by unfold EqOK; kernel_rfl
noncomputable def cxSam : Cx Try.prog := { ps := [sameS], es := [], is := [], n0 := 2, loops := fun _ => none, cuts := fun _ => none }
section
attribute [local irreducible] Bw enter anyAlt
set_option maxHeartbeats 4000000 in
theorem rsame_runs (x : Fr × Fr) (hp : obp (some (Bw x.1.data ∧ Bw x.2.data))) : Runs cxSam Try.f35 [F1 0 x.1, F1 1 x.2] [roB x.1.data, roB x.2.data] fun v _ => isRes (.one (.a (.v (.bool (sameF x.1 x.2))))) v := by
  obtain ⟨f, g⟩ := x
  obtain ⟨h1, h2⟩ := hp
  dsimp only at *
  repeat' (first | with_reducible exact trivial | with_reducible exact rfl | with_reducible exact Nat.le_refl _ | with_reducible exact (fun _ _ => rfl) | ((conv => whnf); first | (refine fun _ => ?_) | refine ⟨?_, ?_⟩ | exact trivial | exact Nat.le_refl _ | exact lex_q (by kernel_rfl) | exact lex_t (by kernel_rfl) | exact lex_h (by kernel_rfl) | fail))
  all_goals (try exact eq23)
  all_goals (try exact h1)
  all_goals (try exact h2)
  all_goals (clear h1 h2)
  all_goals (try (show sameF f g = sameB f.data g.data))
  all_goals (unfold sameF; simp_all)
end
theorem arg2 (f g : Fr) : mkArgs 0 ((Sig.s2 Lens.fr Lens.fr).arg (f, g)) = [F1 0 f, F1 1 g] := by kernel_rfl
theorem mem2 (f g : Fr) : mkMem ((Sig.s2 Lens.fr Lens.fr).arg (f, g)) = [roB f.data, roB g.data] := by kernel_rfl
noncomputable def rsamS : PSpec Try.prog := readN fn35 (.s2 Lens.fr Lens.fr) (fun _ => cxSam) (fun x => some (Bw x.1.data ∧ Bw x.2.data)) (fun x => .one (.a (.v (.bool (sameF x.1 x.2))))) (fun x => by cases x; rfl) (fun _ => rfl) (fun _ => rfl) (fun x hx => by obtain ⟨f, g⟩ := x; rw [arg2, mem2]; exact rsame_runs (f, g) hx)
theorem fn36 : FnOf Try.prog 36 Try.f36 := ⟨Try.func36, rfl, rfl, mixed⟩
def fr0C (f : Nat → Int) (d : SA) : List SA := [u8_ (f 0), u8_ (f 1), u8_ (f 2), u8_ (f 3), u8_ (f 4), u8_ (f 5), u8_ (f 6), u8_ (f 7), u8_ (f 8), u8_ (f 9), u8_ (f 10), u8_ (f 11), .ff, i_ 0, i_ 0, .ff, .ff, i_ 0, i_ 0, d]
abbrev frU (g : Nat → Int) : Fr := ⟨g 0, g 1, g 2, g 3, g 4, g 5, g 6, g 7, g 8, g 9, g 10, g 11, dT g, dV g, dP g, dD g, false, 0, 0, d0 0⟩
abbrev frV (g : Nat → Int) : Fr := ⟨g 0, g 1, g 2, g 3, g 4, g 5, g 6, g 7, g 8, g 9, g 10, g 11, dT g, dV g, dP g, dD g, dM g, dS g, 0, d0 0⟩
abbrev laU (a : IS) : LA where
  ι := Unit
  inv := fun _ => LenOk a
  T := fun _ => ⟨184, [(0, .one (.a (.slc 0 1 0 a.len a.cap))), (2, .one (.a (.ptr 1 0))), (3, int_ .i64 0), (4, .one (.a (.ptr 2 0))), (6, int_ .i64 (o1 a.g : Int))], [roB a, flatR (zC nilA), flatR (frCells (frU a.g) nilA)]⟩
  μ := fun _ => 0
  ren := fun S => [0, S.ix 2, S.ix 4]
abbrev laV (a : IS) : LA where
  ι := Unit
  inv := fun _ => LenOk a
  T := fun _ => ⟨184, [(0, .one (.a (.slc 0 1 0 a.len a.cap))), (2, .one (.a (.ptr 1 0))), (3, int_ .i64 0), (4, .one (.a (.ptr 2 0))), (6, int_ .i64 (o2 a.g : Int))], [roB a, flatR (zC nilA), flatR (frCells (frV a.g) nilA)]⟩
  μ := fun _ => 0
  ren := fun S => [0, S.ix 2, S.ix 4]
noncomputable def cxRdec (a : IS) : Cx Try.prog := { ps := [sameS, opensS], es := [copyS, rencS], is := [], n0 := 1, loops := fun i => (match i with | 9 => some (.rounds 7) | _ => none), cuts := fun i => (match i with | 20 => some (laU a) | 24 => some (laV a) | _ => none) }
theorem w14 (g : Nat → Int) : w16 g 14 = g 14 * 256 + g 15 := rfl
theorem frD_lit (g : Nat → Int) (d : IS) : (⟨g 0, g 1, g 2, g 3, g 4, g 5, g 6, g 7, g 8, g 9, g 10, g 11, dT g, dV g, dP g, dD g, dM g, dS g, w16 g (o2 g), d⟩ : Fr) = frD g d := rfl
theorem cb_dG {g : Nat → Int} {n : Nat} {y : CG} (h : CB n (fun q => g (q + (o2 g + 4))) y) : CB n (dG g) y := ⟨h.1, h.2.1, fun r hr => by rw [h.2.2 r hr]; show g (r + (o2 g + 4)) = g (o2 g + 4 + r); rw [Nat.add_comm]⟩
theorem sameD {a : IS} {f : Fr} {x : CG} (hw : Bw a) (hF : FrW f) (hx : CB (tot f + 4) (clG (inG f) (tot f)) x) : sameB ⟨a.len, a.cap, a.N, fun q => a.g q⟩ ⟨tot f + 4, x.cap, x.cap, fun q => x.g q⟩ = true ↔ a.len = tot f + 4 ∧ ∀ r, r < a.len → clG (inG f) (tot f) r = a.g r := by
  have hb := (hx.bw fun r _ => clG_wf (fun q _ => inG_wf hF q) r).out.1
  refine (sameB_iff hw.out.1 hb).trans ⟨fun h => ⟨h.1, fun r hr => ?_⟩, fun h => ⟨h.1, fun r hr => ?_⟩⟩
  · rw [← hx.2.2 r (by have h1 : a.len = tot f + 4 := h.1; have hr : r < a.len := hr; omega)]; exact (h.2 r hr).symm
  · show a.g r = x.g r
    have hr : r < a.len := hr
    rw [hx.2.2 r (by have h1 : a.len = tot f + 4 := h.1; have hr : r < a.len := hr; omega), h.2 r hr]
theorem not_b {b : Bool} (h : (!b) = true) : ¬ b = true := by cases b <;> simp at *
theorem yes_b {b : Bool} (h : (!b) = false) : b = true := by cases b <;> simp at *
theorem tn1 (n : Nat) : ((n : Int) + 1).toNat = n + 1 := by omega
theorem tn2 (n : Nat) : ((n : Int) + 2).toNat = n + 2 := by omega
theorem tn3 (n : Nat) : ((n : Int) + 3).toNat = n + 3 := by omega
theorem tn4 (n : Nat) : ((n : Int) + 4).toNat = n + 4 := by omega
theorem tn5 (n : Nat) : ((n : Int) + 5).toNat = n + 5 := by omega
theorem wsum_at {g : Nat → Int} {n : Nat} (h : Bytes g n) (r : Nat) (hr : r + 1 < n) : IntKind.i64.wrap (g r * 256 + g (r + 1)) = w16 g r := by
  have h1 := h r (by omega)
  have h2 := h (r + 1) hr
  exact w64' (by omega) (by omega)
theorem frV_eta (g : Nat → Int) (n c N : Nat) (x : Nat → Int) : (⟨(frV g).a0, (frV g).a1, (frV g).a2, (frV g).a3, (frV g).a4, (frV g).a5, (frV g).b0, (frV g).b1, (frV g).b2, (frV g).b3, (frV g).b4, (frV g).b5, (frV g).tg, (frV g).vid, (frV g).prio, (frV g).drop, (frV g).many, (frV g).seq, w16 g (o2 g), ⟨n, c, N, x⟩⟩ : Fr) = frD g ⟨n, c, N, x⟩ := rfl
section
attribute [local irreducible] Bw Lex HeldOK enter anyAlt
set_option maxHeartbeats 8000000 in
theorem rdec_runs (a : IS) (hp : obp (some (Bw a ∧ a.len ≤ 100000))) : Runs (cxRdec a) Try.f36 [D1 0 a] [roB a] fun v m => anyAlt [roB a] (dRen v) v m (decAlts a) := by
  obtain ⟨hw, hs⟩ : Bw a ∧ a.len ≤ 100000 := hp
  have hww := hw.out
  have hb : Bytes a.g a.len := hww.1
  have hor := or_at hb
  have hwr := wr_at hb
  have hws := ws_at hb
  have hsm := wsum_at hb
  have ho1 := o1_c a.g
  have ho2 := o2_c a.g
  have hdn : dn a.g = (w16 a.g (o2 a.g + 2)).toNat := rfl
  repeat' (first | with_reducible exact trivial | with_reducible exact rfl | with_reducible exact Nat.le_refl _ | with_reducible exact (fun _ _ => rfl) | ((conv => whnf); first | (refine fun (x : CG) => ?_) | (refine fun (y : Unit) => ?_) | (refine fun (z : Unit) => ?_) | (exact fun h => absurd h (by decide)) | (intro h9; (have h8 := of_decide_eq_true (p := type_of% h9) (by decide)); clear h8 h9) | (refine fun _ => ?_) | refine ⟨?_, ?_⟩ | exact trivial | exact Nat.le_refl _ | exact lex_q (by kernel_rfl) | exact lex_t (by kernel_rfl) | exact lex_h (by kernel_rfl) | fail))
  all_goals (try dsimp only [id] at *)
  · have hd := derr_20 (a := a) (by omega)
    refine dec_no ?_ (by (repeat' (first | with_reducible exact rfl | exact Nat.le_refl _ | with_reducible exact (fun _ _ => rfl) | ((conv => whnf); first | refine ⟨?_, ?_⟩ | exact trivial | fail))); first | ((all_goals ((try dsimp only [id] at *); (all_goals (try simp (disch := omega) only [w64', wu64', tdiv_pos, tmod_pos, Int.toNat_natCast, Nat.zero_add] at *)); (all_goals ((exact hd))))); done) | fail)
    rw [hd]; decide
  · have hd := derr_3 (a := a) (by omega) (by omega)
    refine dec_no ?_ (by (repeat' (first | with_reducible exact rfl | exact Nat.le_refl _ | with_reducible exact (fun _ _ => rfl) | ((conv => whnf); first | refine ⟨?_, ?_⟩ | exact trivial | fail))); first | ((all_goals ((try dsimp only [id] at *); (all_goals (try simp (disch := omega) only [w64', wu64', tdiv_pos, tmod_pos, Int.toNat_natCast, Nat.zero_add] at *)); (all_goals ((exact hd))))); done) | fail)
    rw [hd]; decide
  all_goals (have hl64 : 64 ≤ a.len := (by omega); have hl16 : a.len ≤ 1600 := (by omega))
  all_goals (have h14 := hb 14 (by omega); have h15 := hb 15 (by omega); have h12 := hb 12 (by omega); have h13 := hb 13 (by omega); have hn := w16_bd hb (i := o2 a.g + 2) (by omega))
  all_goals (try (with_reducible (first | show (_ : Int) ≤ _ | show (_ : Int) < _ | show (_ : Nat) ≤ _ | show (_ : Nat) < _); first | omega | (simp (disch := omega) only [fdiv_nn, Int.reduceToNat, IntKind.bits, Nat.min_def, Nat.reduceLeDiff, if_true, if_false, Int.reducePow, wu8, wu32, w64', wu64', tdiv_pos, tmod_pos, Int.toNat_natCast, Nat.zero_add, tn1, tn2, tn3, tn4, tn5, hwr, hws, hsm, cutR_s, cutL_s, cutR_n, cutL_n, Nat.add_zero, Nat.add_assoc, Nat.reduceAdd, Nat.sub_zero, Int.reduceAdd]; first | done | omega)))
  all_goals (try with_reducible exact hw.self)
  · have hd := derr_22 (a := a) (by omega) (by omega) (opD_no (by assumption))
    refine dec_no ?_ (by (repeat' (first | with_reducible exact rfl | exact Nat.le_refl _ | with_reducible exact (fun _ _ => rfl) | ((conv => whnf); first | refine ⟨?_, ?_⟩ | exact trivial | fail))); first | ((all_goals ((try dsimp only [id] at *); (all_goals (try simp (disch := omega) only [w64', wu64', tdiv_pos, tmod_pos, Int.toNat_natCast, Nat.zero_add] at *)); (all_goals ((exact hd))))); done) | fail)
    rw [hd]; decide
  · conv => whnf
    have e1 : dT a.g = true := yes_p (by have k4 : a.g 12 = 129 := (by assumption); have k5 : a.g 13 = 0 := (by assumption); show a.g 12 * 256 + a.g 13 = 33024; omega)
    have q1 := (dT_t e1).1
    have q2 := (dT_t e1).2.1
    have q3 := (dT_t e1).2.2.1
    have q4 := (dT_t e1).2.2.2
    have hl1 : LenOk a := ⟨⟨by omega, by omega⟩, opD_yes (by assumption)⟩
    (conv => whnf); refine enter_mk (la := laU a) () ?_ (by (repeat' (first | ((conv => whnf); first | refine ⟨?_, ?_⟩ | exact trivial | fail) | (dsimp only; done) | ((try dsimp only); first | with_reducible exact rfl | exact Nat.le_refl _ | with_reducible exact (fun _ _ => rfl)))); all_goals (((try dsimp only); (try simp (disch := omega) only [fdiv_nn, Int.reduceToNat, IntKind.bits, Nat.min_def, Nat.reduceLeDiff, if_true, if_false, Int.reducePow, wu8, wu32, w64', wu64', tdiv_pos, tmod_pos, Int.toNat_natCast, Nat.zero_add, tn1, tn2, tn3, tn4, tn5, hwr, hws, hsm, cutR_s, cutL_s, cutR_n, cutL_n, Nat.add_zero, Nat.add_assoc, Nat.reduceAdd, Nat.sub_zero, Int.reduceAdd]); (first | done | with_reducible rfl | with_reducible assumption | omega | (rw [q2]; rw [w14]; omega) | (rw [q3]; rw [w14]; omega) | (rw [q4]; refine decide_eq_decide.2 ?_; rw [w14]; omega) | fail))))
    exact hl1
  · conv => whnf
    have e1 : dT a.g = false := decide_eq_false (by have k4 : a.g 12 = 129 := (by assumption); have k5 : ¬ a.g 13 = 0 := (by assumption); show ¬ a.g 12 * 256 + a.g 13 = 33024; omega)
    have q1 := (dT_f e1).1
    have q2 := (dT_f e1).2.1
    have q3 := (dT_f e1).2.2.1
    have q4 := (dT_f e1).2.2.2
    have hl1 : LenOk a := ⟨⟨by omega, by omega⟩, opD_yes (by assumption)⟩
    (conv => whnf); refine enter_mk (la := laU a) () ?_ (by (repeat' (first | ((conv => whnf); first | refine ⟨?_, ?_⟩ | exact trivial | fail) | (dsimp only; done) | ((try dsimp only); first | with_reducible exact rfl | exact Nat.le_refl _ | with_reducible exact (fun _ _ => rfl)))); all_goals (((try dsimp only); (try simp (disch := omega) only [fdiv_nn, Int.reduceToNat, IntKind.bits, Nat.min_def, Nat.reduceLeDiff, if_true, if_false, Int.reducePow, wu8, wu32, w64', wu64', tdiv_pos, tmod_pos, Int.toNat_natCast, Nat.zero_add, tn1, tn2, tn3, tn4, tn5, hwr, hws, hsm, cutR_s, cutL_s, cutR_n, cutL_n, Nat.add_zero, Nat.add_assoc, Nat.reduceAdd, Nat.sub_zero, Int.reduceAdd]); (first | done | with_reducible rfl | with_reducible assumption | omega | exact q2 | exact q3 | exact q4 | fail))))
    exact hl1
  · conv => whnf
    have e1 : dT a.g = false := decide_eq_false (by have k4 : ¬ a.g 12 = 129 := (by assumption); show ¬ a.g 12 * 256 + a.g 13 = 33024; omega)
    have q1 := (dT_f e1).1
    have q2 := (dT_f e1).2.1
    have q3 := (dT_f e1).2.2.1
    have q4 := (dT_f e1).2.2.2
    have hl1 : LenOk a := ⟨⟨by omega, by omega⟩, opD_yes (by assumption)⟩
    (conv => whnf); refine enter_mk (la := laU a) () ?_ (by (repeat' (first | ((conv => whnf); first | refine ⟨?_, ?_⟩ | exact trivial | fail) | (dsimp only; done) | ((try dsimp only); first | with_reducible exact rfl | exact Nat.le_refl _ | with_reducible exact (fun _ _ => rfl)))); all_goals (((try dsimp only); (try simp (disch := omega) only [fdiv_nn, Int.reduceToNat, IntKind.bits, Nat.min_def, Nat.reduceLeDiff, if_true, if_false, Int.reducePow, wu8, wu32, w64', wu64', tdiv_pos, tmod_pos, Int.toNat_natCast, Nat.zero_add, tn1, tn2, tn3, tn4, tn5, hwr, hws, hsm, cutR_s, cutL_s, cutR_n, cutL_n, Nat.add_zero, Nat.add_assoc, Nat.reduceAdd, Nat.sub_zero, Int.reduceAdd]); (first | done | with_reducible rfl | with_reducible assumption | omega | exact q2 | exact q3 | exact q4 | fail))))
    exact hl1
  all_goals (have hop : opB a.g a.len := opD_yes (by assumption))
  all_goals (have hm0 := hb (o1 a.g) (by omega); have hm1 := hb (o1 a.g + 1) (by omega))
  · conv => whnf
    have e1 : dM a.g = true := yes_p (by have k4 := (by assumption : a.g (0 + ((o1 a.g : Nat) : Int).toNat) = 241); rw [Nat.zero_add, Int.toNat_natCast] at k4; have k5 := (by assumption : a.g (0 + (IntKind.i64.wrap ((o1 a.g : Int) + 1)).toNat) = 193); rw [w64' (by omega) (by omega), tn1, Nat.zero_add] at k5; show a.g (o1 a.g) * 256 + a.g (o1 a.g + 1) = 61889; omega)
    have q1 := (dM_t e1).1
    have q2 := (dM_t e1).2
    have q3 := trivial
    have q4 := trivial
    (conv => whnf); refine enter_mk (la := laV a) () ?_ (by (repeat' (first | ((conv => whnf); first | refine ⟨?_, ?_⟩ | exact trivial | fail) | (dsimp only; done) | ((try dsimp only); first | with_reducible exact rfl | exact Nat.le_refl _ | with_reducible exact (fun _ _ => rfl)))); all_goals (((try dsimp only); (try simp (disch := omega) only [fdiv_nn, Int.reduceToNat, IntKind.bits, Nat.min_def, Nat.reduceLeDiff, if_true, if_false, Int.reducePow, wu8, wu32, w64', wu64', tdiv_pos, tmod_pos, Int.toNat_natCast, Nat.zero_add, tn1, tn2, tn3, tn4, tn5, hwr, hws, hsm, cutR_s, cutL_s, cutR_n, cutL_n, Nat.add_zero, Nat.add_assoc, Nat.reduceAdd, Nat.sub_zero, Int.reduceAdd]); (first | done | with_reducible rfl | with_reducible assumption | omega | exact q2 | exact q3 | exact q4 | fail))))
    exact ⟨⟨by omega, by omega⟩, hop⟩
  · conv => whnf
    have e1 : dM a.g = false := decide_eq_false (by have k4 := (by assumption : a.g (0 + ((o1 a.g : Nat) : Int).toNat) = 241); rw [Nat.zero_add, Int.toNat_natCast] at k4; have k5 := (by assumption : ¬ a.g (0 + (IntKind.i64.wrap ((o1 a.g : Int) + 1)).toNat) = 193); rw [w64' (by omega) (by omega), tn1, Nat.zero_add] at k5; show ¬ a.g (o1 a.g) * 256 + a.g (o1 a.g + 1) = 61889; omega)
    have q1 := (dM_f e1).1
    have q2 := (dM_f e1).2
    have q3 := trivial
    have q4 := trivial
    (conv => whnf); refine enter_mk (la := laV a) () ?_ (by (repeat' (first | ((conv => whnf); first | refine ⟨?_, ?_⟩ | exact trivial | fail) | (dsimp only; done) | ((try dsimp only); first | with_reducible exact rfl | exact Nat.le_refl _ | with_reducible exact (fun _ _ => rfl)))); all_goals (((try dsimp only); (try simp (disch := omega) only [fdiv_nn, Int.reduceToNat, IntKind.bits, Nat.min_def, Nat.reduceLeDiff, if_true, if_false, Int.reducePow, wu8, wu32, w64', wu64', tdiv_pos, tmod_pos, Int.toNat_natCast, Nat.zero_add, tn1, tn2, tn3, tn4, tn5, hwr, hws, hsm, cutR_s, cutL_s, cutR_n, cutL_n, Nat.add_zero, Nat.add_assoc, Nat.reduceAdd, Nat.sub_zero, Int.reduceAdd]); (first | done | with_reducible rfl | with_reducible assumption | omega | exact q2 | exact q3 | exact q4 | fail))))
    exact ⟨⟨by omega, by omega⟩, hop⟩
  · conv => whnf
    have e1 : dM a.g = false := decide_eq_false (by have k4 := (by assumption : ¬ a.g (0 + ((o1 a.g : Nat) : Int).toNat) = 241); rw [Nat.zero_add, Int.toNat_natCast] at k4; show ¬ a.g (o1 a.g) * 256 + a.g (o1 a.g + 1) = 61889; omega)
    have q1 := (dM_f e1).1
    have q2 := (dM_f e1).2
    have q3 := trivial
    have q4 := trivial
    (conv => whnf); refine enter_mk (la := laV a) () ?_ (by (repeat' (first | ((conv => whnf); first | refine ⟨?_, ?_⟩ | exact trivial | fail) | (dsimp only; done) | ((try dsimp only); first | with_reducible exact rfl | exact Nat.le_refl _ | with_reducible exact (fun _ _ => rfl)))); all_goals (((try dsimp only); (try simp (disch := omega) only [fdiv_nn, Int.reduceToNat, IntKind.bits, Nat.min_def, Nat.reduceLeDiff, if_true, if_false, Int.reducePow, wu8, wu32, w64', wu64', tdiv_pos, tmod_pos, Int.toNat_natCast, Nat.zero_add, tn1, tn2, tn3, tn4, tn5, hwr, hws, hsm, cutR_s, cutL_s, cutR_n, cutL_n, Nat.add_zero, Nat.add_assoc, Nat.reduceAdd, Nat.sub_zero, Int.reduceAdd]); (first | done | with_reducible rfl | with_reducible assumption | omega | exact q2 | exact q3 | exact q4 | fail))))
    exact ⟨⟨by omega, by omega⟩, hop⟩
  all_goals (have hdnn : ((dn a.g : Nat) : Int) = w16 a.g (o2 a.g + 2) := (by unfold dn; omega))
  all_goals (try simp (disch := omega) only [fdiv_nn, Int.reduceToNat, IntKind.bits, Nat.min_def, Nat.reduceLeDiff, if_true, if_false, Int.reducePow, wu8, wu32, w64', wu64', tdiv_pos, tmod_pos, Int.toNat_natCast, Nat.zero_add, tn1, tn2, tn3, tn4, tn5, hwr, hws, hsm, cutR_s, cutL_s, cutR_n, cutL_n, Nat.add_zero, Nat.add_assoc, Nat.reduceAdd, Nat.sub_zero, Int.reduceAdd] at *)
  all_goals (try simp only [← hdnn] at *)
  all_goals (try (have hct : ((o2 a.g : Int) + 4 + (dn a.g : Int)).toNat - (o2 a.g + 4) = dn a.g := (by omega)))
  all_goals (try simp only [hct, frD_lit] at *)
  all_goals (try omega)
  all_goals (try (have hnn : o2 a.g + 4 + dn a.g ≤ a.len - 4 := (by omega)))
  all_goals (try (have hy := cb_dG (by assumption : CB (dn a.g) (fun q => a.g (q + (o2 a.g + 4))) _); have hF := frD_w hw hl64 hnn hy))
  · have hd := derr_21 (a := a) (by omega) (by omega) hop fun h => (by have h9 := h.n; omega)
    refine dec_no ?_ (by (repeat' (first | with_reducible exact rfl | exact Nat.le_refl _ | with_reducible exact (fun _ _ => rfl) | ((conv => whnf); first | refine ⟨?_, ?_⟩ | exact trivial | fail))); first | ((all_goals ((try dsimp only [id] at *); (all_goals (try simp (disch := omega) only [w64', wu64', tdiv_pos, tmod_pos, Int.toNat_natCast, Nat.zero_add] at *)); (all_goals ((exact hd))))); done) | fail)
    rw [hd]; decide
  · exact Bw.mk (fun r hr => hb _ (by have hr : r < dn a.g := hr; omega)) (by show dn a.g ≤ a.cap - _; omega) (by show dn a.g ≤ a.N - _; omega) (by show a.cap - _ ≤ 9223372036854775807; omega)
  · exact hF
  · show dn a.g ≤ 100000; omega
  · have hk := (by assumption : chk (frD a.g _) ≠ 0)
    have hd := derr_21 (a := a) (by omega) (by omega) hop fun h => hk ((chk_d (g := a.g) (n := dn a.g) rfl).trans h.c)
    refine dec_no ?_ (by (repeat' (first | with_reducible exact rfl | exact Nat.le_refl _ | with_reducible exact (fun _ _ => rfl) | ((conv => whnf); first | refine ⟨?_, ?_⟩ | exact trivial | fail))); first | ((all_goals ((try dsimp only [id] at *); (all_goals (try simp (disch := omega) only [w64', wu64', tdiv_pos, tmod_pos, Int.toNat_natCast, Nat.zero_add] at *)); (all_goals ((exact hd))))); done) | fail)
    rw [hd]; decide
  · have hq := (by assumption : chk (frD a.g _) = 0 ∧ CB (tot _ + 4) _ _)
    exact hq.2.bw fun r _ => clG_wf (fun q _ => inG_wf hF q) r
  · have hq := (by assumption : chk (frD a.g _) = 0 ∧ CB (tot _ + 4) _ _)
    have hsm := not_b (by assumption : (!sameB _ _) = true)
    have hd := derr_21 (a := a) (by omega) (by omega) hop fun h => hsm ((sameD hw hF hq.2).2 ((dok_eq hb hl64 hl16 hop hnn (d := fam (dn a.g) _) rfl hy.2.2 hq.1).1 h))
    refine dec_no ?_ (by (repeat' (first | with_reducible exact rfl | exact Nat.le_refl _ | with_reducible exact (fun _ _ => rfl) | ((conv => whnf); first | refine ⟨?_, ?_⟩ | exact trivial | fail))); first | ((all_goals ((try dsimp only [id] at *); (all_goals (try simp (disch := omega) only [w64', wu64', tdiv_pos, tmod_pos, Int.toNat_natCast, Nat.zero_add] at *)); (all_goals ((exact hd))))); done) | fail)
    rw [hd]; decide
  · have hq := (by assumption : chk (frD a.g _) = 0 ∧ CB (tot _ + 4) _ _)
    have hsm := yes_b (by assumption : (!sameB _ _) = false)
    have hd := derr_0 (a := a) (by omega) (by omega) hop ((dok_eq hb hl64 hl16 hop hnn (d := fam (dn a.g) _) rfl hy.2.2 hq.1).2 ((sameD hw hF hq.2).1 hsm))
    refine alt_r (alt_fam (α := CG) ⟨_, _⟩ ?_ (by (repeat' (first | with_reducible exact rfl | exact Nat.le_refl _ | with_reducible exact (fun _ _ => rfl) | ((conv => whnf); first | refine ⟨?_, ?_⟩ | exact trivial | fail))); first | ((all_goals ((try dsimp only [id, cutL] at *); (all_goals (try simp (disch := omega) only [w64', wu64', tdiv_pos, tmod_pos, Int.toNat_natCast, Nat.zero_add] at *)); (all_goals ((first | rfl | omega))))); done) | fail))
    exact ⟨hd, hy⟩
end
noncomputable def rdecS : ESpec Try.prog := newN fn36 (.s1 dB) cxRdec (fun a => some (Bw a ∧ a.len ≤ 100000)) decAlts (fun _ v _ => dRen v) (fun _ => rfl) (fun x a ha => by
  rcases List.mem_cons.1 ha with h | h
  · rw [h]; rfl
  · rw [List.mem_singleton.1 h]; exact fun _ => rfl) rdec_runs

end Go.Proofs.Ytiaadplhpkggeaa
