/-
  Contracts of functions, and plain facts about them, that a claim of this seat uses.
-/
import Derived.Test.YtaadejgoafdbcaaSx
import Derived.Test.YtaadejgoafdbcaaPortG
import Derived.Test.YtaadejgoafdbcaaPortP
import Derived.Test.YtaadejgoafdbcaaProg
namespace Go.Proofs.Ytaadejgoafdbcaa
open Go.Sx
set_option linter.unusedVariables false
set_option linter.unusedSimpArgs false
set_option maxRecDepth 100000

/-! the port: the laws' head. -/
theorem fn7 : FnOf Try.prog 7 Try.f7 := ⟨Try.func7, rfl, rfl, mixed⟩
noncomputable def cxHd : Cx Try.prog := { ps := [eightS], es := [pnS, pputS, nxS, whS], is := [], n0 := 0, loops := fun _ => none, cuts := fun _ => none, held := fun i => match i with | 2 => some (true, .take 0 (.one 1 (.one 2 (.take 3 (.take 4 (.take 5 (.take 6 (.take 7 .done)))))))) | _ => none }
def L0 : GL := ⟨0, 10000, 2, 2, 2, fun r => [128, 127].getD r 0, fun r => [1000, 9000].getD r 0⟩
theorem L0_chk : chk L0 = 0 := by rfl
theorem L0_gw : Gw L0 := Gw.mk ⟨⟨(by decide : (-9223372036854775808 : Int) ≤ 0), (by decide : (0 : Int) ≤ 9223372036854775807)⟩, ⟨(by decide : (-9223372036854775808 : Int) ≤ 10000), (by decide : (10000 : Int) ≤ 9223372036854775807)⟩, (by decide : 2 ≤ 2), (by decide : 2 ≤ 2), (by decide : 2 ≤ 9223372036854775807), fun i hi => by
  have hi : i < 2 := hi
  rcases (by omega : i = 0 ∨ i = 1) with rfl | rfl <;> exact ⟨⟨by decide, by decide⟩, ⟨by decide, by decide⟩⟩⟩
theorem L0_slot {p : Int} (hp : 0 ≤ p ∧ p < 10000) : slotI L0 p = if p < 1000 then 0 else 1 := by
  split
  · exact (chk_ok L0_chk).uniq hp (i := 0) (by decide) (by show (0 : Int) ≤ p; omega) (by show p < (0 : Int) + 1000; omega)
  · exact (chk_ok L0_chk).uniq hp (i := 1) (by decide) (by show (0 : Int) + 1000 ≤ p; omega) (by show p < (10000 : Int); omega)
theorem L0_at {q : Int} : gAt L0 7 q = if q % 10000 < 1000 then 1 else 0 := by
  unfold gAt
  rw [show L0.cyc = 10000 from rfl, L0_slot ⟨Int.emod_nonneg _ (by decide), Int.emod_lt_of_pos _ (by decide)⟩]
  split <;> rfl
theorem L0_left {t v : Int} (ht : 0 ≤ t ∧ t ≤ 100000) (h1 : t % 10000 + v = 1000) (h2 : 0 < v) : leftV L0 t 7 = v := by
  have e : stayV L0 (phV L0 t) 7 1 = v := by
    refine IsStay.val ⟨by omega, by show v ≤ 2 * 10000; omega, fun j h3 h4 => ?_, fun _ => ?_⟩ (by decide)
    · rw [L0_at, if_pos]
      show ((t - 0) % 10000 + j) % 10000 < 1000
      omega
    · rw [L0_at, if_neg]
      · decide
      · show ¬ ((t - 0) % 10000 + v) % 10000 < 1000
        omega
  unfold leftV
  rw [if_pos ⟨L0_chk, by unfold inR; omega, by decide⟩, e, if_neg (by show ¬ v = 2 * 10000; omega)]
theorem L0_next : nextV L0 1000 7 = 9000 ∧ nextB L0 1000 7 = true := by
  have e : stayV L0 (phV L0 1000) 7 0 = 9000 := by
    refine IsStay.val ⟨by decide, by decide, fun j h3 h4 => ?_, fun _ => ?_⟩ (by decide)
    · rw [L0_at, if_neg]
      show ¬ ((1000 - 0) % 10000 + j) % 10000 < 1000
      omega
    · rw [L0_at]; decide
  constructor
  · unfold nextV
    rw [if_pos ⟨L0_chk, by decide, by decide, by rw [e]; decide⟩, e]
  · unfold nextB
    exact decide_eq_true ⟨L0_chk, by decide, by decide, by rw [e]; decide⟩
def hI : It := ⟨1, 64, false⟩
def hQ : Ln := putL (new0 (eightC 4)) 7 hI
def hP (y : CL) : Pt := ptQ (pn0 L0 (eightC 4) y) hQ
theorem h_put : putE (new0 (eightC 4)) 7 hI = 0 ∧ One hQ 7 hI := one_put (n := 4) (c := 7) (by decide) (by decide) (by decide)
theorem nx_pk {p : Pt} {now : Int} (h : p.wait = false) : nxO p now = pk p.q (lf8 p.l p.fr false now) := by
  unfold nxO lfA; rw [atG_no (sw_no h)]; show pk p.q (lf8 p.l p.fr p.wait now) = _; rw [h]
theorem nx_p0 {p : Pt} {now : Int} (h : p.wait = false) (hn : nxO p now = none) : nxP p now = p := by
  unfold nxP; rw [hn, atG_no (sw_no h)]; rfl
theorem h_nx1 {y : CL} (hc : CS 2 L0 y) : nxO (hP y) 600 = none := by
  rw [nx_pk rfl, show (hP y).q = hQ from rfl, pk_one h_put.2 (by decide), if_neg]
  rw [lf8_f (by decide), lfV_no, show (hP y).l = cp L0 y from rfl, cp_left hc, show ((7 : Nat) : Int) = 7 from rfl, L0_left (v := 400) (by decide) (by decide) (by decide)]
  decide
theorem h_wh {y : CL} (hc : CS 2 L0 y) : whV (hP y) 600 = (10000, true) ∧ whP (hP y) 600 = hP y := by
  have ha : anyTo (hP y).q 8 = true := any_one h_put.2 (by decide)
  have e7 : (lfA (hP y).g 600).f 7 = 400 := by
    unfold lfA; rw [atG_no (sw_no rfl), lf8_f (by decide)]
    show lfV (cp L0 y) 0 false 600 7 = 400
    rw [lfV_no, cp_left hc, L0_left (v := 400) (by decide) (by decide) (by decide)]
  have ow : whOpens (atG (hP y).g 600).l (lfA (hP y).g 600) 600 7 ∧ whAt (atG (hP y).g 600).l (lfA (hP y).g 600) 600 7 = 10000 := by
    rw [atG_no (sw_no rfl), show (hP y).g.l = cp L0 y from rfl]
    unfold whOpens whAt
    rw [e7, cp_nextB hc, cp_nextV hc, show IntKind.i64.wrap (600 + 400) = 1000 from rfl, show ((7 : Nat) : Int) = 7 from rfl, L0_next.1, L0_next.2]
    exact ⟨⟨rfl, .inl (by decide)⟩, rfl⟩
  constructor
  · unfold whV
    rw [if_neg (by rw [ha]; decide), show (hP y).q = hQ from rfl, wl_one (x := hI) h_put.2 (by decide) 8 0 rfl (by decide), if_neg (by rw [e7]; decide), if_pos ow.1, ow.2]
    show whEnd (atG (hP y).g 600) 600 10000 true = _
    rw [atG_no (sw_no rfl)]; rfl
  · unfold whP
    rw [if_neg (by rw [ha]; decide), atG_no (sw_no rfl)]; rfl
theorem h_nx2 {y : CL} (hc : CS 2 L0 y) : nxO (hP y) 10400 = some 7 := by
  rw [nx_pk rfl, show (hP y).q = hQ from rfl, pk_one h_put.2 (by decide), if_pos]
  rw [lf8_f (by decide), lfV_no, show (hP y).l = cp L0 y from rfl, cp_left hc, show ((7 : Nat) : Int) = 7 from rfl, L0_left (v := 600) (by decide) (by decide) (by decide)]
  decide
theorem pkB_0 : pkB none = false := rfl
theorem pkB_s {k : Nat} : pkB (some k) = true := rfl
theorem pkC_s {k : Nat} : pkC (some k) = k := rfl
theorem h_id : (pkI hQ (some 7)).id = 1 := h_put.2.id
section
attribute [local irreducible] anyAlt Gw enter chk roomsOK CS putE whV HeldOK pkB pkC pkI nxO
set_option maxHeartbeats 8000000 in
theorem hd_runs (_ : Unit) (_ : obp (some True)) : Runs cxHd Try.f7 [] [] fun v _ => isRes (.one (.a .tt)) v := by
  repeat' (first | with_reducible exact trivial | with_reducible exact rfl | with_reducible exact Nat.le_refl _ | with_reducible exact (fun _ _ => rfl) | ((conv => whnf); first | (refine fun (x : CL) => ?_) | (refine fun (y : Nat) => ?_) | (exact fun h => absurd h (by decide)) | (intro h9; (have h8 := of_decide_eq_true (p := type_of% h9) (by decide)); clear h8 h9) | (refine fun _ => ?_) | refine ⟨?_, ?_⟩ | exact trivial | exact Nat.le_refl _ | exact lex_q (by kernel_rfl) | exact lex_t (by kernel_rfl) | exact lex_h (by kernel_rfl) | fail))
  all_goals (try exact L0_gw)
  all_goals (try decide)
  all_goals (try exact absurd (show chk L0 = 0 ∧ roomsOK (eightC 4) from ⟨L0_chk, rooms_eight (n := 4) (by decide)⟩) (by assumption))
  all_goals (try exact absurd h_put.1 (by assumption))
  all_goals (have hc : CS 2 L0 x := And.right (by assumption))
  all_goals (have e1 : nxP (hP x) 600 = hP x := nx_p0 rfl (h_nx1 hc); have ew := h_wh hc; have e3 := h_nx2 hc)
  all_goals first
    | (have h9 := (by assumption : (!pkB (nxO (hP x) 600)) = false); rw [h_nx1 hc, pkB_0] at h9; exact absurd h9 (show ¬ (true = false) by decide))
    | (show true = decide (pkC (nxO (whP (nxP (hP x) 600) 600) 10400) = 7); rw [e1, ew.2, e3, pkC_s]; rfl)
    | (have h9 := (by assumption : pkB (nxO (whP (nxP (hP x) 600) 600) 10400) = false); rw [e1, ew.2, e3, pkB_s] at h9; exact absurd h9 (show ¬ (true = false) by decide))
    | (have h9 := (by assumption : (whV (nxP (hP x) 600) 600).2 = false); rw [e1, ew.1] at h9; exact absurd h9 (show ¬ (true = false) by decide))
    | (have h9 := (by assumption : ¬ (whV (nxP (hP x) 600) 600).1 = 10000); rw [e1, ew.1] at h9; exact absurd rfl h9)
    | (have h9 := (by assumption : ¬ (pkI (whP (nxP (hP x) 600) 600).q (nxO (whP (nxP (hP x) 600) 600) 10400)).id = 1); rw [e1, ew.2, e3] at h9; exact absurd h_id h9)
    | fail
end
noncomputable def hdS : PSpec Try.prog := readN fn7 Sig.s0 (fun _ => cxHd) (fun _ => some True) (fun _ => .one (.a .tt)) (fun _ => rfl) (fun _ => rfl) (fun _ => rfl) (fun x hx => hd_runs x hx)

end Go.Proofs.Ytaadejgoafdbcaa
