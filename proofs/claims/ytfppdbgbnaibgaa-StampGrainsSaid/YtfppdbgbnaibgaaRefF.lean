/-
  Contracts of functions, and plain facts about them, that a claim of this seat uses.
-/
import Derived.Test.YtfppdbgbnaibgaaSx
import Derived.Test.YtfppdbgbnaibgaaWideNum
import Derived.Test.YtfppdbgbnaibgaaRefA
import Derived.Test.YtfppdbgbnaibgaaRefB
import Derived.Test.YtfppdbgbnaibgaaRefM
import Derived.Test.YtfppdbgbnaibgaaRefD
import Derived.Test.YtfppdbgbnaibgaaMulDiv
import Derived.Test.YtfppdbgbnaibgaaRefE
import Derived.Test.YtfppdbgbnaibgaaProg
namespace Go.Proofs.Ytfppdbgbnaibgaa
open Go.Sx
set_option linter.unusedVariables false
set_option linter.unusedSimpArgs false
set_option maxRecDepth 100000

/-! the reference's Round. -/
def rdMore (a b : Int) (m : Bool) (r : Int) : Bool := if a % b = 0 then false else if r = 0 then m else if r = 1 then !m else decide (b < a % b + a % b ∨ a % b + a % b = b ∧ a / b % 2 = 1)
def rdQ (a b : Int) (m : Bool) (r : Int) : Int := if rdMore a b m r = true then a / b + 1 else a / b
def rdM (a b : Int) (m : Bool) (r : Int) : Bool := m && decide (0 < rdQ a b m r)
attribute [local irreducible] enter anyAlt
def rdAlts (a b : IS) (m : Bool) (r : Int) : List Alt := [.fam (DS × Bool) (fun y => DV (rdQ (nv a) (nv b) m r) y.1 ∧ y.2 = rdM (nv a) (nv b) m r) (fun y => .tup [.a (.slc 2 1 0 y.1.len y.1.cap), .a (.v (.bool y.2))]) (fun y => [roI a, roI b, rwI y.1.cap y.1.g])]
noncomputable def cxRound : Cx Try.prog := { ps := [cmpRefS], es := [divRefS, addRefS], is := [], n0 := 2, loops := fun _ => none, cuts := fun _ => none }
theorem pv_odd {g : Nat → Int} : ∀ {n : Nat}, 0 < n → pv g n % 65536 = g 0 % 65536
  | 0, h => by omega
  | 1, _ => by simp [pv, B_zero]
  | n + 2, _ => by
    have := pv_odd (g := g) (n := n + 1) (by omega)
    rw [show pv g (n + 2) = pv g (n + 1) + g (n + 1) * B (n + 1) from rfl, B_succ, Int.mul_left_comm, Int.add_mul_emod_self_left]
    exact this
theorem dv_pos {n : Int} {y : DS} (h : DV n y) : decide (0 < (y.len : Int)) = decide (0 < n) := by
  have h1 := h.2.2.2.2.2.2.2
  have h2 := h.2.2.2.1
  rw [decide_eq_decide]; omega
theorem fin_no {a b r : Int} {m bl : Bool} {x : DS} (hq : DV (a / b) x) (h : rdMore a b m r = false) (hb : bl = (m && decide (0 < (x.len : Int)))) : DV (rdQ a b m r) x ∧ bl = rdM a b m r := by
  have e : rdQ a b m r = a / b := by unfold rdQ; rw [h]; rfl
  unfold rdM
  rw [e, ← dv_pos hq]; exact ⟨hq, hb⟩
theorem fin_yes {a b r : Int} {m bl : Bool} {x y : DS} {c N : Nat} (hq : DV (a / b) x) (hy : DV (nv ⟨x.len, c, N, x.g⟩ + nv ⟨1, 1, 0 + 1 - 0, fun q => [(1 : Int)].getD (q + 0) 0⟩) y) (h : rdMore a b m r = true) (hb : bl = (m && decide (0 < (y.len : Int)))) : DV (rdQ a b m r) y ∧ bl = rdM a b m r := by
  have e : rdQ a b m r = a / b + 1 := by unfold rdQ; rw [h]; rfl
  have e1 : nv ⟨x.len, c, N, x.g⟩ = a / b := hq.2.2.1
  have e2 : nv ⟨1, 1, 0 + 1 - 0, fun q => [(1 : Int)].getD (q + 0) 0⟩ = 1 := one_nv
  rw [e1, e2] at hy
  unfold rdM
  rw [e, ← dv_pos hy]; exact ⟨hy, hb⟩
set_option maxHeartbeats 8000000 in
theorem round_ref_runs (a b : IS) (m : Bool) (r : Int) (hp : obp (some (Wf a ∧ Wf b ∧ a.len ≤ 800 ∧ b.len ≤ 800 ∧ 0 < nv b ∧ (0 ≤ r ∧ r ≤ 2)))) : Runs cxRound Try.f60 [D1 0 a, D1 1 b, b_ m, int_ .i64 r] [roI a, roI b] fun v w => anyAlt [roI a, roI b] [0, 1, ix2 0 v] v w (rdAlts a b m r) := by
  obtain ⟨ha, hb, ha1, hb1, hb0, hr0, hr2⟩ := hp
  have a1 := ha.n
  have b1 := hb.n
  repeat' (first | exact trivial | with_reducible exact rfl | exact Nat.le_refl _ | with_reducible exact (fun _ _ => rfl) | ((conv => whnf); first | (refine fun (x : DS × DS) => ?_) | (refine fun (y : DS) => ?_) | (refine fun _ => ?_) | refine ⟨?_, ?_⟩ | exact trivial | exact lex_q (by kernel_rfl) | exact lex_t (by kernel_rfl) | exact lex_h (by kernel_rfl) | fail))
  any_goals (refine alt_fam (α := DS × Bool) ⟨⟨_, _, _⟩, _⟩ ?_ (by (repeat' (first | with_reducible exact rfl | exact Nat.le_refl _ | with_reducible exact (fun _ _ => rfl) | ((conv => whnf); first | refine ⟨?_, ?_⟩ | exact trivial | fail))); all_goals ((try dsimp only [id] at *); (try simp (disch := omega) only [w64', wu64', tdiv_pos, tmod_pos, Int.toNat_natCast, Nat.zero_add] at *); (try omega))))
  all_goals (try dsimp only [cutR, cutL, id] at *)
  all_goals (try omega)
  all_goals first
    | exact one_wf
    | (exfalso
       have h1 : m = true := by assumption
       have h2 : m = false := by assumption
       rw [h1] at h2; cases h2)
    | (exfalso
       have h1 : (!m) = true := by assumption
       have h2 : m = true := by assumption
       rw [h2] at h1; cases h1)
    | (exfalso
       have h1 : (!m) = false := by assumption
       have h2 : m = false := by assumption
       rw [h2] at h1; cases h1)
    | exact (by assumption : DV _ x.1 ∧ DV _ x.2).1.2.1
    | exact (by assumption : DV _ x.1 ∧ DV _ x.2).2.2.1
    | (have hd := (by assumption : DV _ x.1 ∧ DV _ x.2)
       have hq : DV (nv a / nv b) x.1 := hd.1
       have hr : DV (nv a % nv b) x.2 := hd.2
       have a0 := ha.nonneg
       have qle := Int.ediv_le_self (nv b) a0
       have rlt := Int.emod_lt_of_pos (nv a) hb0
       have ab : nv a < B a.len := (pv_bd ha.dig).2
       have bb : nv b < B b.len := (pv_bd hb.dig).2
       have q0 := hq.2.2.2.1
       have r0 := hr.2.2.2.1
       have qz := hq.2.2.2.2.2.2.2
       have rz := hr.2.2.2.2.2.2.2
       have w1 := hq.2.2.1
       have w2 := hr.2.2.1
       have od : x.1.len = 0 ∨ (nv a / nv b) % 65536 = x.1.g 0 % 65536 ∧ IntKind.i64.wrap ((x.1.g (0 + Int.toNat 0)).tmod 2) = x.1.g 0 % 2 ∧ Int.tmod (x.1.g (0 + Int.toNat 0)) 2 = x.1.g 0 % 2 := by
         rcases Nat.eq_zero_or_pos x.1.len with hl | hl
         · exact .inl hl
         · right
           have dg := hq.1.2.2.2.1 0 hl
           refine ⟨?_, ?_, ?_⟩
           · rw [← w1]; exact pv_odd (g := x.1.g) hl
           · rw [show (0 + Int.toNat 0) = 0 from rfl, Int.tmod_eq_emod_of_nonneg dg.1, w64' (by omega) (by omega)]
           · rw [show (0 + Int.toNat 0) = 0 from rfl, Int.tmod_eq_emod_of_nonneg dg.1]
       first
       | exact dv_len (k := a.len) hq (by omega) (by omega)
       | exact dv_len (k := b.len) hr (by omega) (by omega)
       | (have hl := hq.1.1
          omega)
       | exact (by assumption : DV (_ + _) _).2.1
       | (refine fin_yes hq (by assumption : DV (nv ⟨x.1.len, _, _, _⟩ + _) _) ?_ ?_
          · unfold rdMore
            rw [if_neg (by omega)]
            first
            | (rw [if_pos (by omega)]; assumption)
            | (rw [if_neg (by omega), if_pos (by omega)]; assumption)
            | (rw [if_neg (by omega), if_neg (by omega)]
               have hy := (by assumption : DV (nv ⟨x.2.len, _, _, _⟩ + _) _).2.2.1
               rw [w2] at hy
               have nb' : nv ⟨b.len, b.cap, b.N - 0, fun q => b.g (q + 0)⟩ = nv b := rfl
               simp only [hy, nb', cmpI3_gt, cmpI3_eq] at *
               first | (apply decide_eq_true; omega) | (apply decide_eq_false; omega))
          · simp [*]; done)
       | (refine fin_no hq ?_ ?_
          · unfold rdMore
            first
            | (rw [if_pos (by omega)]; done)
            | (rw [if_neg (by omega), if_pos (by omega)]; assumption)
            | (rw [if_neg (by omega), if_neg (by omega), if_pos (by omega)]; assumption)
            | (rw [if_neg (by omega), if_neg (by omega), if_neg (by omega)]
               have hy := (by assumption : DV (nv ⟨x.2.len, _, _, _⟩ + _) _).2.2.1
               rw [w2] at hy
               have nb' : nv ⟨b.len, b.cap, b.N - 0, fun q => b.g (q + 0)⟩ = nv b := rfl
               simp only [hy, nb', cmpI3_gt, cmpI3_eq] at *
               first | (apply decide_eq_true; omega) | (apply decide_eq_false; omega))
          · simp [*]; done))
noncomputable def roundRefS : ESpec Try.prog := newN fn60 (.s4 dS dS .bool (.int .i64)) (fun _ => cxRound) (fun x => some (Wf x.1 ∧ Wf x.2.1 ∧ x.1.len ≤ 800 ∧ x.2.1.len ≤ 800 ∧ 0 < nv x.2.1 ∧ (0 ≤ x.2.2.2 ∧ x.2.2.2 ≤ 2))) (fun x => rdAlts x.1 x.2.1 x.2.2.1 x.2.2.2) (fun _ v _ => [0, 1, ix2 0 v]) (fun _ => rfl) (fun x a ha => by rw [List.mem_singleton.1 ha]; exact fun _ => rfl) (fun x => round_ref_runs x.1 x.2.1 x.2.2.1 x.2.2.2)

end Go.Proofs.Ytfppdbgbnaibgaa
