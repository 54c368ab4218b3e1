/-
  Contracts of functions, and plain facts about them, that a claim of this seat uses.
-/
import Derived.Test.YtaadejgoafdbcaaSx
import Derived.Test.YtaadejgoafdbcaaPortO
import Derived.Test.YtaadejgoafdbcaaProg
namespace Go.Proofs.Ytaadejgoafdbcaa
open Go.Sx
set_option linter.unusedVariables false
set_option linter.unusedSimpArgs false
set_option maxRecDepth 100000

/-! PortOpen: the walk. -/
noncomputable def cxOp (l : GL) (st : SD) : Cx Try.prog := { ps := [hdS, eightS, leftS], es := [pnS, pputS, nxS], is := [], n0 := 2, loops := fun i => match i with | 11 => some (.inv (laO l st)) | 21 => some (.here 40 fun n => laK l st n) | _ => none, cuts := fun i => match i with | 6 => some (laS l st) | _ => none, cutsAt := fun i => match i with | 17 => some (40, 40, fun n _ => laQ l st n) | 20 => some (40, 40, fun n _ => laN l st n) | 26 => some (40, 40, fun n _ => laG l st n) | _ => none, held := fun i => match i with | 5 => some (true, .take 0 (.one 1 (.one 2 (.take 3 (.take 4 (.take 5 (.take 6 (.take 7 .done)))))))) | 17 => some (true, .take 0 (.take 1 (.take 2 (.take 4 (.take 5 (.two 3 (.one 6 (.one 7 (.take 8 (.one 9 .done)))) 6 (.one 3 (.one 7 (.take 8 (.one 9 .done)))))))))) | _ => none, lose := fun i => match i with | 17 => [3, 4, 5, 6, 7, 8, 9, 10, 11] | _ => [] }
attribute [local irreducible] anyAlt Gw enter chk roomsOK CS putE HeldOK pkB pkC pkI nxO leftV
set_option maxHeartbeats 32000000 in
theorem openRuns (l : GL) (hl : Gw l) (st : SD) (hs : Sw st) : Runs (cxOp l st) Try.f3 [.one (.agg [i_ l.base, i_ l.cyc, .slc 0 2 0 l.len l.cap]), .one (.a (.slc 1 9 0 st.len st.cap))] [roG l, roS st] yes := by
  repeat' (first | with_reducible exact trivial | with_reducible exact rfl | with_reducible exact Nat.le_refl _ | with_reducible exact (fun _ _ => rfl) | ((conv => whnf); first | (refine fun (x : OX) => ?_) | (refine fun (y : CL) => ?_) | ((refine fun (z : SX) => ?_); rcases z with z | z) | ((refine fun (u : QX) => ?_); rcases u with u | u | u | u | u | u | u | u | u) | (refine fun (v : NX) => ?_) | ((refine fun (w : KX) => ?_); rcases w with w | w | w | w | w | w | w | w | w) | ((refine fun (s : GX) => ?_); rcases s with s | s | s | s | s | s | s | s | s) | (refine fun (t : Nat) => ?_) | (exact fun h => absurd h (by decide)) | (intro h9; (have h8 := of_decide_eq_true (p := type_of% h9) (by decide)); clear h8 h9) | (refine fun _ => ?_) | refine ⟨?_, ?_⟩ | exact trivial | exact Nat.le_refl _ | exact lex_q (by kernel_rfl) | exact lex_t (by kernel_rfl) | exact lex_h (by kernel_rfl) | fail))
  all_goals (try exact hl)
  all_goals (try exact absurd (by assumption : _ = 0) (Decidable.not_not.1 (by assumption)))
  all_goals (try exact absurd (Decidable.not_not.1 (by assumption)) (pn_bad (by assumption)))
  all_goals (try exact Int.le_refl _)
  all_goals (try decide)
  all_goals (obtain ⟨st1, st2, st3⟩ := hs)
  all_goals (try omega)
  · (conv => whnf); refine enter_mk (la := laS l st) (.ok y) ?_ (by (repeat' (first | ((conv => whnf); first | refine ⟨?_, ?_⟩ | exact trivial | fail) | (dsimp only; done) | ((try dsimp only); first | with_reducible exact rfl | exact Nat.le_refl _ | with_reducible exact (fun _ _ => rfl)))); all_goals ((first | rfl | exact fun _ _ => rfl)))
    exact ⟨And.right (by assumption), And.left (And.left (by assumption))⟩
  · (conv => whnf); refine enter_mk (la := laS l st) (.bad (if chk l = 0 then (1 : Int) else chk l)) ?_ (by (repeat' (first | ((conv => whnf); first | refine ⟨?_, ?_⟩ | exact trivial | fail) | (dsimp only; done) | ((try dsimp only); first | with_reducible exact rfl | exact Nat.le_refl _ | with_reducible exact (fun _ _ => rfl)))); all_goals ((first | rfl | exact fun _ _ => rfl)))
    exact pn_bad (by assumption)
  · have hy := (by assumption : (laS l st).inv (.ok z))
    (conv => whnf); refine enter_mk (la := laO l st) ⟨z, new0 (eightC 30), 0, 0, h80⟩ ?_ (by (repeat' (first | ((conv => whnf); first | refine ⟨?_, ?_⟩ | exact trivial | fail) | (dsimp only; done) | ((try dsimp only); first | with_reducible exact rfl | exact Nat.le_refl _ | with_reducible exact (fun _ _ => rfl)))); all_goals ((first | rfl | exact fun _ _ => rfl)))
    exact o_new hy.1 (by omega) hy.2
  · have hx := (by assumption : (laO l st).inv x)
    have hi : x.i < st.len := by omega
    (conv => whnf)
    by_cases he : putE x.q (bits .and .i64 (st.c (0 + (x.i : Int).toNat)) 7) (oZ (IntKind.i64.wrap (64 + bits .and .i64 (st.sz (0 + (x.i : Int).toNat)) 1023))) = 0
    · rcases c8 (st.c (0 + (x.i : Int).toNat)) with e | e | e | e | e | e | e | e
      · rw [e] at he
        (conv => whnf); refine enter_mk (la := laQ l st (x.i : Int)) (.y0 x (IntKind.i64.wrap (64 + bits .and .i64 (st.sz (0 + (x.i : Int).toNat)) 1023))) ?_ (by (repeat' (first | ((conv => whnf); first | refine ⟨?_, ?_⟩ | exact trivial | fail) | (dsimp only; done) | ((try dsimp only); first | with_reducible exact rfl | exact Nat.le_refl _ | with_reducible exact (fun _ _ => rfl)))); all_goals ((first | rfl | exact fun _ _ => rfl | exact (decide_eq_true he).symm | exact e.symm | exact e | (rw [e]; exact (decide_eq_true he).symm) | (rw [e]; rfl))))
        exact ⟨⟨⟨hx, hi⟩, z_bd _⟩, he, rfl⟩
      · rw [e] at he
        (conv => whnf); refine enter_mk (la := laQ l st (x.i : Int)) (.y1 x (IntKind.i64.wrap (64 + bits .and .i64 (st.sz (0 + (x.i : Int).toNat)) 1023))) ?_ (by (repeat' (first | ((conv => whnf); first | refine ⟨?_, ?_⟩ | exact trivial | fail) | (dsimp only; done) | ((try dsimp only); first | with_reducible exact rfl | exact Nat.le_refl _ | with_reducible exact (fun _ _ => rfl)))); all_goals ((first | rfl | exact fun _ _ => rfl | exact (decide_eq_true he).symm | exact e.symm | exact e | (rw [e]; exact (decide_eq_true he).symm) | (rw [e]; rfl))))
        exact ⟨⟨⟨hx, hi⟩, z_bd _⟩, he, rfl⟩
      · rw [e] at he
        (conv => whnf); refine enter_mk (la := laQ l st (x.i : Int)) (.y2 x (IntKind.i64.wrap (64 + bits .and .i64 (st.sz (0 + (x.i : Int).toNat)) 1023))) ?_ (by (repeat' (first | ((conv => whnf); first | refine ⟨?_, ?_⟩ | exact trivial | fail) | (dsimp only; done) | ((try dsimp only); first | with_reducible exact rfl | exact Nat.le_refl _ | with_reducible exact (fun _ _ => rfl)))); all_goals ((first | rfl | exact fun _ _ => rfl | exact (decide_eq_true he).symm | exact e.symm | exact e | (rw [e]; exact (decide_eq_true he).symm) | (rw [e]; rfl))))
        exact ⟨⟨⟨hx, hi⟩, z_bd _⟩, he, rfl⟩
      · rw [e] at he
        (conv => whnf); refine enter_mk (la := laQ l st (x.i : Int)) (.y3 x (IntKind.i64.wrap (64 + bits .and .i64 (st.sz (0 + (x.i : Int).toNat)) 1023))) ?_ (by (repeat' (first | ((conv => whnf); first | refine ⟨?_, ?_⟩ | exact trivial | fail) | (dsimp only; done) | ((try dsimp only); first | with_reducible exact rfl | exact Nat.le_refl _ | with_reducible exact (fun _ _ => rfl)))); all_goals ((first | rfl | exact fun _ _ => rfl | exact (decide_eq_true he).symm | exact e.symm | exact e | (rw [e]; exact (decide_eq_true he).symm) | (rw [e]; rfl))))
        exact ⟨⟨⟨hx, hi⟩, z_bd _⟩, he, rfl⟩
      · rw [e] at he
        (conv => whnf); refine enter_mk (la := laQ l st (x.i : Int)) (.y4 x (IntKind.i64.wrap (64 + bits .and .i64 (st.sz (0 + (x.i : Int).toNat)) 1023))) ?_ (by (repeat' (first | ((conv => whnf); first | refine ⟨?_, ?_⟩ | exact trivial | fail) | (dsimp only; done) | ((try dsimp only); first | with_reducible exact rfl | exact Nat.le_refl _ | with_reducible exact (fun _ _ => rfl)))); all_goals ((first | rfl | exact fun _ _ => rfl | exact (decide_eq_true he).symm | exact e.symm | exact e | (rw [e]; exact (decide_eq_true he).symm) | (rw [e]; rfl))))
        exact ⟨⟨⟨hx, hi⟩, z_bd _⟩, he, rfl⟩
      · rw [e] at he
        (conv => whnf); refine enter_mk (la := laQ l st (x.i : Int)) (.y5 x (IntKind.i64.wrap (64 + bits .and .i64 (st.sz (0 + (x.i : Int).toNat)) 1023))) ?_ (by (repeat' (first | ((conv => whnf); first | refine ⟨?_, ?_⟩ | exact trivial | fail) | (dsimp only; done) | ((try dsimp only); first | with_reducible exact rfl | exact Nat.le_refl _ | with_reducible exact (fun _ _ => rfl)))); all_goals ((first | rfl | exact fun _ _ => rfl | exact (decide_eq_true he).symm | exact e.symm | exact e | (rw [e]; exact (decide_eq_true he).symm) | (rw [e]; rfl))))
        exact ⟨⟨⟨hx, hi⟩, z_bd _⟩, he, rfl⟩
      · rw [e] at he
        (conv => whnf); refine enter_mk (la := laQ l st (x.i : Int)) (.y6 x (IntKind.i64.wrap (64 + bits .and .i64 (st.sz (0 + (x.i : Int).toNat)) 1023))) ?_ (by (repeat' (first | ((conv => whnf); first | refine ⟨?_, ?_⟩ | exact trivial | fail) | (dsimp only; done) | ((try dsimp only); first | with_reducible exact rfl | exact Nat.le_refl _ | with_reducible exact (fun _ _ => rfl)))); all_goals ((first | rfl | exact fun _ _ => rfl | exact (decide_eq_true he).symm | exact e.symm | exact e | (rw [e]; exact (decide_eq_true he).symm) | (rw [e]; rfl))))
        exact ⟨⟨⟨hx, hi⟩, z_bd _⟩, he, rfl⟩
      · rw [e] at he
        (conv => whnf); refine enter_mk (la := laQ l st (x.i : Int)) (.y7 x (IntKind.i64.wrap (64 + bits .and .i64 (st.sz (0 + (x.i : Int).toNat)) 1023))) ?_ (by (repeat' (first | ((conv => whnf); first | refine ⟨?_, ?_⟩ | exact trivial | fail) | (dsimp only; done) | ((try dsimp only); first | with_reducible exact rfl | exact Nat.le_refl _ | with_reducible exact (fun _ _ => rfl)))); all_goals ((first | rfl | exact fun _ _ => rfl | exact (decide_eq_true he).symm | exact e.symm | exact e | (rw [e]; exact (decide_eq_true he).symm) | (rw [e]; rfl))))
        exact ⟨⟨⟨hx, hi⟩, z_bd _⟩, he, rfl⟩
    · (conv => whnf); refine enter_mk (la := laQ l st (x.i : Int)) (.no x (IntKind.i64.wrap (64 + bits .and .i64 (st.sz (0 + (x.i : Int).toNat)) 1023)) (bits .and .i64 (st.c (0 + (x.i : Int).toNat)) 7)) ?_ (by (repeat' (first | ((conv => whnf); first | refine ⟨?_, ?_⟩ | exact trivial | fail) | (dsimp only; done) | ((try dsimp only); first | with_reducible exact rfl | exact Nat.le_refl _ | with_reducible exact (fun _ _ => rfl)))); all_goals ((first | rfl | exact fun _ _ => rfl | exact (decide_eq_false he).symm)))
      exact ⟨⟨⟨hx, hi⟩, z_bd _⟩, he, rfl⟩
  · rename_i zz hu
    obtain ⟨⟨⟨ho, hi⟩, hz⟩, he, hn⟩ := hu
    exact (oInv_out ho).2.2.1.q0.n
  · rename_i zz hu
    obtain ⟨⟨⟨ho, hi⟩, hz⟩, he, hn⟩ := hu
    exact (oInv_out ho).2.2.1.q0.c
  · rename_i zz hu
    obtain ⟨⟨⟨ho, hi⟩, hz⟩, he, hn⟩ := hu
    have h9 := (oInv_out ho).2.2.2.2 0 (by decide)
    omega
  · rename_i zz hu tl h1 h2
    (conv => whnf)
    obtain ⟨⟨⟨ho, hi⟩, hz⟩, he, hn⟩ := hu
    (conv => whnf); refine enter_mk (la := laO l st) ⟨u.y, putL u.q 0 (oZ zz), u.now, u.i + 1, ⟨⟨_, _⟩, u.h.q1, u.h.q2, u.h.q3, u.h.q4, u.h.q5, u.h.q6, u.h.q7⟩⟩ ?_ (by (repeat' (first | ((conv => whnf); first | refine ⟨?_, ?_⟩ | exact trivial | fail) | (dsimp only; done) | ((try dsimp only); first | with_reducible exact rfl | exact Nat.le_refl _ | with_reducible exact (fun _ _ => rfl)))); all_goals ((first | rfl | exact fun _ _ => rfl | exact p_at he | exact p_ne he (by decide) | exact cnt_i ho hi | exact mu_i hi hn)))
    exact o_yes ho hi he hz (fun c hsz => ⟨zok_at he c.q0 h1 h2 (fun r hr => rz_lt hr) rz_at, zok_ne he (by decide) c.q1, zok_ne he (by decide) c.q2, zok_ne he (by decide) c.q3, zok_ne he (by decide) c.q4, zok_ne he (by decide) c.q5, zok_ne he (by decide) c.q6, zok_ne he (by decide) c.q7, hsz⟩)
  · rename_i zz hu
    obtain ⟨⟨⟨ho, hi⟩, hz⟩, he, hn⟩ := hu
    exact (oInv_out ho).2.2.1.q0.n
  · rename_i zz hu
    obtain ⟨⟨⟨ho, hi⟩, hz⟩, he, hn⟩ := hu
    exact (oInv_out ho).2.2.1.q0.c
  · rename_i zz hu
    obtain ⟨⟨⟨ho, hi⟩, hz⟩, he, hn⟩ := hu
    have h9 := (oInv_out ho).2.2.2.2 0 (by decide)
    omega
  · rename_i zz hu tl h1 h2
    (conv => whnf)
    obtain ⟨⟨⟨ho, hi⟩, hz⟩, he, hn⟩ := hu
    (conv => whnf); refine enter_mk (la := laO l st) ⟨u.y, putL u.q 0 (oZ zz), u.now, u.i + 1, ⟨⟨_, _⟩, u.h.q1, u.h.q2, u.h.q3, u.h.q4, u.h.q5, u.h.q6, u.h.q7⟩⟩ ?_ (by (repeat' (first | ((conv => whnf); first | refine ⟨?_, ?_⟩ | exact trivial | fail) | (dsimp only; done) | ((try dsimp only); first | with_reducible exact rfl | exact Nat.le_refl _ | with_reducible exact (fun _ _ => rfl)))); all_goals ((first | rfl | exact fun _ _ => rfl | exact p_at he | exact p_ne he (by decide) | exact cnt_i ho hi | exact mu_i hi hn)))
    exact o_yes ho hi he hz (fun c hsz => ⟨zok_at he c.q0 h1 h2 (fun r hr => rz_lt hr) rz_at, zok_ne he (by decide) c.q1, zok_ne he (by decide) c.q2, zok_ne he (by decide) c.q3, zok_ne he (by decide) c.q4, zok_ne he (by decide) c.q5, zok_ne he (by decide) c.q6, zok_ne he (by decide) c.q7, hsz⟩)
  · rename_i zz hu
    obtain ⟨⟨⟨ho, hi⟩, hz⟩, he, hn⟩ := hu
    exact (oInv_out ho).2.2.1.q1.n
  · rename_i zz hu
    obtain ⟨⟨⟨ho, hi⟩, hz⟩, he, hn⟩ := hu
    exact (oInv_out ho).2.2.1.q1.c
  · rename_i zz hu
    obtain ⟨⟨⟨ho, hi⟩, hz⟩, he, hn⟩ := hu
    have h9 := (oInv_out ho).2.2.2.2 1 (by decide)
    omega
  · rename_i zz hu tl h1 h2
    (conv => whnf)
    obtain ⟨⟨⟨ho, hi⟩, hz⟩, he, hn⟩ := hu
    (conv => whnf); refine enter_mk (la := laO l st) ⟨u.y, putL u.q 1 (oZ zz), u.now, u.i + 1, ⟨u.h.q0, ⟨_, _⟩, u.h.q2, u.h.q3, u.h.q4, u.h.q5, u.h.q6, u.h.q7⟩⟩ ?_ (by (repeat' (first | ((conv => whnf); first | refine ⟨?_, ?_⟩ | exact trivial | fail) | (dsimp only; done) | ((try dsimp only); first | with_reducible exact rfl | exact Nat.le_refl _ | with_reducible exact (fun _ _ => rfl)))); all_goals ((first | rfl | exact fun _ _ => rfl | exact p_at he | exact p_ne he (by decide) | exact cnt_i ho hi | exact mu_i hi hn)))
    exact o_yes ho hi he hz (fun c hsz => ⟨zok_ne he (by decide) c.q0, zok_at he c.q1 h1 h2 (fun r hr => rz_lt hr) rz_at, zok_ne he (by decide) c.q2, zok_ne he (by decide) c.q3, zok_ne he (by decide) c.q4, zok_ne he (by decide) c.q5, zok_ne he (by decide) c.q6, zok_ne he (by decide) c.q7, hsz⟩)
  · rename_i zz hu
    obtain ⟨⟨⟨ho, hi⟩, hz⟩, he, hn⟩ := hu
    exact (oInv_out ho).2.2.1.q1.n
  · rename_i zz hu
    obtain ⟨⟨⟨ho, hi⟩, hz⟩, he, hn⟩ := hu
    exact (oInv_out ho).2.2.1.q1.c
  · rename_i zz hu
    obtain ⟨⟨⟨ho, hi⟩, hz⟩, he, hn⟩ := hu
    have h9 := (oInv_out ho).2.2.2.2 1 (by decide)
    omega
  · rename_i zz hu tl h1 h2
    (conv => whnf)
    obtain ⟨⟨⟨ho, hi⟩, hz⟩, he, hn⟩ := hu
    (conv => whnf); refine enter_mk (la := laO l st) ⟨u.y, putL u.q 1 (oZ zz), u.now, u.i + 1, ⟨u.h.q0, ⟨_, _⟩, u.h.q2, u.h.q3, u.h.q4, u.h.q5, u.h.q6, u.h.q7⟩⟩ ?_ (by (repeat' (first | ((conv => whnf); first | refine ⟨?_, ?_⟩ | exact trivial | fail) | (dsimp only; done) | ((try dsimp only); first | with_reducible exact rfl | exact Nat.le_refl _ | with_reducible exact (fun _ _ => rfl)))); all_goals ((first | rfl | exact fun _ _ => rfl | exact p_at he | exact p_ne he (by decide) | exact cnt_i ho hi | exact mu_i hi hn)))
    exact o_yes ho hi he hz (fun c hsz => ⟨zok_ne he (by decide) c.q0, zok_at he c.q1 h1 h2 (fun r hr => rz_lt hr) rz_at, zok_ne he (by decide) c.q2, zok_ne he (by decide) c.q3, zok_ne he (by decide) c.q4, zok_ne he (by decide) c.q5, zok_ne he (by decide) c.q6, zok_ne he (by decide) c.q7, hsz⟩)
  · rename_i zz hu
    obtain ⟨⟨⟨ho, hi⟩, hz⟩, he, hn⟩ := hu
    exact (oInv_out ho).2.2.1.q2.n
  · rename_i zz hu
    obtain ⟨⟨⟨ho, hi⟩, hz⟩, he, hn⟩ := hu
    exact (oInv_out ho).2.2.1.q2.c
  · rename_i zz hu
    obtain ⟨⟨⟨ho, hi⟩, hz⟩, he, hn⟩ := hu
    have h9 := (oInv_out ho).2.2.2.2 2 (by decide)
    omega
  · rename_i zz hu tl h1 h2
    (conv => whnf)
    obtain ⟨⟨⟨ho, hi⟩, hz⟩, he, hn⟩ := hu
    (conv => whnf); refine enter_mk (la := laO l st) ⟨u.y, putL u.q 2 (oZ zz), u.now, u.i + 1, ⟨u.h.q0, u.h.q1, ⟨_, _⟩, u.h.q3, u.h.q4, u.h.q5, u.h.q6, u.h.q7⟩⟩ ?_ (by (repeat' (first | ((conv => whnf); first | refine ⟨?_, ?_⟩ | exact trivial | fail) | (dsimp only; done) | ((try dsimp only); first | with_reducible exact rfl | exact Nat.le_refl _ | with_reducible exact (fun _ _ => rfl)))); all_goals ((first | rfl | exact fun _ _ => rfl | exact p_at he | exact p_ne he (by decide) | exact cnt_i ho hi | exact mu_i hi hn)))
    exact o_yes ho hi he hz (fun c hsz => ⟨zok_ne he (by decide) c.q0, zok_ne he (by decide) c.q1, zok_at he c.q2 h1 h2 (fun r hr => rz_lt hr) rz_at, zok_ne he (by decide) c.q3, zok_ne he (by decide) c.q4, zok_ne he (by decide) c.q5, zok_ne he (by decide) c.q6, zok_ne he (by decide) c.q7, hsz⟩)
  · rename_i zz hu
    obtain ⟨⟨⟨ho, hi⟩, hz⟩, he, hn⟩ := hu
    exact (oInv_out ho).2.2.1.q2.n
  · rename_i zz hu
    obtain ⟨⟨⟨ho, hi⟩, hz⟩, he, hn⟩ := hu
    exact (oInv_out ho).2.2.1.q2.c
  · rename_i zz hu
    obtain ⟨⟨⟨ho, hi⟩, hz⟩, he, hn⟩ := hu
    have h9 := (oInv_out ho).2.2.2.2 2 (by decide)
    omega
  · rename_i zz hu tl h1 h2
    (conv => whnf)
    obtain ⟨⟨⟨ho, hi⟩, hz⟩, he, hn⟩ := hu
    (conv => whnf); refine enter_mk (la := laO l st) ⟨u.y, putL u.q 2 (oZ zz), u.now, u.i + 1, ⟨u.h.q0, u.h.q1, ⟨_, _⟩, u.h.q3, u.h.q4, u.h.q5, u.h.q6, u.h.q7⟩⟩ ?_ (by (repeat' (first | ((conv => whnf); first | refine ⟨?_, ?_⟩ | exact trivial | fail) | (dsimp only; done) | ((try dsimp only); first | with_reducible exact rfl | exact Nat.le_refl _ | with_reducible exact (fun _ _ => rfl)))); all_goals ((first | rfl | exact fun _ _ => rfl | exact p_at he | exact p_ne he (by decide) | exact cnt_i ho hi | exact mu_i hi hn)))
    exact o_yes ho hi he hz (fun c hsz => ⟨zok_ne he (by decide) c.q0, zok_ne he (by decide) c.q1, zok_at he c.q2 h1 h2 (fun r hr => rz_lt hr) rz_at, zok_ne he (by decide) c.q3, zok_ne he (by decide) c.q4, zok_ne he (by decide) c.q5, zok_ne he (by decide) c.q6, zok_ne he (by decide) c.q7, hsz⟩)
  · rename_i zz hu
    obtain ⟨⟨⟨ho, hi⟩, hz⟩, he, hn⟩ := hu
    exact (oInv_out ho).2.2.1.q3.n
  · rename_i zz hu
    obtain ⟨⟨⟨ho, hi⟩, hz⟩, he, hn⟩ := hu
    exact (oInv_out ho).2.2.1.q3.c
  · rename_i zz hu
    obtain ⟨⟨⟨ho, hi⟩, hz⟩, he, hn⟩ := hu
    have h9 := (oInv_out ho).2.2.2.2 3 (by decide)
    omega
  · rename_i zz hu tl h1 h2
    (conv => whnf)
    obtain ⟨⟨⟨ho, hi⟩, hz⟩, he, hn⟩ := hu
    (conv => whnf); refine enter_mk (la := laO l st) ⟨u.y, putL u.q 3 (oZ zz), u.now, u.i + 1, ⟨u.h.q0, u.h.q1, u.h.q2, ⟨_, _⟩, u.h.q4, u.h.q5, u.h.q6, u.h.q7⟩⟩ ?_ (by (repeat' (first | ((conv => whnf); first | refine ⟨?_, ?_⟩ | exact trivial | fail) | (dsimp only; done) | ((try dsimp only); first | with_reducible exact rfl | exact Nat.le_refl _ | with_reducible exact (fun _ _ => rfl)))); all_goals ((first | rfl | exact fun _ _ => rfl | exact p_at he | exact p_ne he (by decide) | exact cnt_i ho hi | exact mu_i hi hn)))
    exact o_yes ho hi he hz (fun c hsz => ⟨zok_ne he (by decide) c.q0, zok_ne he (by decide) c.q1, zok_ne he (by decide) c.q2, zok_at he c.q3 h1 h2 (fun r hr => rz_lt hr) rz_at, zok_ne he (by decide) c.q4, zok_ne he (by decide) c.q5, zok_ne he (by decide) c.q6, zok_ne he (by decide) c.q7, hsz⟩)
  · rename_i zz hu
    obtain ⟨⟨⟨ho, hi⟩, hz⟩, he, hn⟩ := hu
    exact (oInv_out ho).2.2.1.q3.n
  · rename_i zz hu
    obtain ⟨⟨⟨ho, hi⟩, hz⟩, he, hn⟩ := hu
    exact (oInv_out ho).2.2.1.q3.c
  · rename_i zz hu
    obtain ⟨⟨⟨ho, hi⟩, hz⟩, he, hn⟩ := hu
    have h9 := (oInv_out ho).2.2.2.2 3 (by decide)
    omega
  · rename_i zz hu tl h1 h2
    (conv => whnf)
    obtain ⟨⟨⟨ho, hi⟩, hz⟩, he, hn⟩ := hu
    (conv => whnf); refine enter_mk (la := laO l st) ⟨u.y, putL u.q 3 (oZ zz), u.now, u.i + 1, ⟨u.h.q0, u.h.q1, u.h.q2, ⟨_, _⟩, u.h.q4, u.h.q5, u.h.q6, u.h.q7⟩⟩ ?_ (by (repeat' (first | ((conv => whnf); first | refine ⟨?_, ?_⟩ | exact trivial | fail) | (dsimp only; done) | ((try dsimp only); first | with_reducible exact rfl | exact Nat.le_refl _ | with_reducible exact (fun _ _ => rfl)))); all_goals ((first | rfl | exact fun _ _ => rfl | exact p_at he | exact p_ne he (by decide) | exact cnt_i ho hi | exact mu_i hi hn)))
    exact o_yes ho hi he hz (fun c hsz => ⟨zok_ne he (by decide) c.q0, zok_ne he (by decide) c.q1, zok_ne he (by decide) c.q2, zok_at he c.q3 h1 h2 (fun r hr => rz_lt hr) rz_at, zok_ne he (by decide) c.q4, zok_ne he (by decide) c.q5, zok_ne he (by decide) c.q6, zok_ne he (by decide) c.q7, hsz⟩)
  · rename_i zz hu
    obtain ⟨⟨⟨ho, hi⟩, hz⟩, he, hn⟩ := hu
    exact (oInv_out ho).2.2.1.q4.n
  · rename_i zz hu
    obtain ⟨⟨⟨ho, hi⟩, hz⟩, he, hn⟩ := hu
    exact (oInv_out ho).2.2.1.q4.c
  · rename_i zz hu
    obtain ⟨⟨⟨ho, hi⟩, hz⟩, he, hn⟩ := hu
    have h9 := (oInv_out ho).2.2.2.2 4 (by decide)
    omega
  · rename_i zz hu tl h1 h2
    (conv => whnf)
    obtain ⟨⟨⟨ho, hi⟩, hz⟩, he, hn⟩ := hu
    (conv => whnf); refine enter_mk (la := laO l st) ⟨u.y, putL u.q 4 (oZ zz), u.now, u.i + 1, ⟨u.h.q0, u.h.q1, u.h.q2, u.h.q3, ⟨_, _⟩, u.h.q5, u.h.q6, u.h.q7⟩⟩ ?_ (by (repeat' (first | ((conv => whnf); first | refine ⟨?_, ?_⟩ | exact trivial | fail) | (dsimp only; done) | ((try dsimp only); first | with_reducible exact rfl | exact Nat.le_refl _ | with_reducible exact (fun _ _ => rfl)))); all_goals ((first | rfl | exact fun _ _ => rfl | exact p_at he | exact p_ne he (by decide) | exact cnt_i ho hi | exact mu_i hi hn)))
    exact o_yes ho hi he hz (fun c hsz => ⟨zok_ne he (by decide) c.q0, zok_ne he (by decide) c.q1, zok_ne he (by decide) c.q2, zok_ne he (by decide) c.q3, zok_at he c.q4 h1 h2 (fun r hr => rz_lt hr) rz_at, zok_ne he (by decide) c.q5, zok_ne he (by decide) c.q6, zok_ne he (by decide) c.q7, hsz⟩)
  · rename_i zz hu
    obtain ⟨⟨⟨ho, hi⟩, hz⟩, he, hn⟩ := hu
    exact (oInv_out ho).2.2.1.q4.n
  · rename_i zz hu
    obtain ⟨⟨⟨ho, hi⟩, hz⟩, he, hn⟩ := hu
    exact (oInv_out ho).2.2.1.q4.c
  · rename_i zz hu
    obtain ⟨⟨⟨ho, hi⟩, hz⟩, he, hn⟩ := hu
    have h9 := (oInv_out ho).2.2.2.2 4 (by decide)
    omega
  · rename_i zz hu tl h1 h2
    (conv => whnf)
    obtain ⟨⟨⟨ho, hi⟩, hz⟩, he, hn⟩ := hu
    (conv => whnf); refine enter_mk (la := laO l st) ⟨u.y, putL u.q 4 (oZ zz), u.now, u.i + 1, ⟨u.h.q0, u.h.q1, u.h.q2, u.h.q3, ⟨_, _⟩, u.h.q5, u.h.q6, u.h.q7⟩⟩ ?_ (by (repeat' (first | ((conv => whnf); first | refine ⟨?_, ?_⟩ | exact trivial | fail) | (dsimp only; done) | ((try dsimp only); first | with_reducible exact rfl | exact Nat.le_refl _ | with_reducible exact (fun _ _ => rfl)))); all_goals ((first | rfl | exact fun _ _ => rfl | exact p_at he | exact p_ne he (by decide) | exact cnt_i ho hi | exact mu_i hi hn)))
    exact o_yes ho hi he hz (fun c hsz => ⟨zok_ne he (by decide) c.q0, zok_ne he (by decide) c.q1, zok_ne he (by decide) c.q2, zok_ne he (by decide) c.q3, zok_at he c.q4 h1 h2 (fun r hr => rz_lt hr) rz_at, zok_ne he (by decide) c.q5, zok_ne he (by decide) c.q6, zok_ne he (by decide) c.q7, hsz⟩)
  · rename_i zz hu
    obtain ⟨⟨⟨ho, hi⟩, hz⟩, he, hn⟩ := hu
    exact (oInv_out ho).2.2.1.q5.n
  · rename_i zz hu
    obtain ⟨⟨⟨ho, hi⟩, hz⟩, he, hn⟩ := hu
    exact (oInv_out ho).2.2.1.q5.c
  · rename_i zz hu
    obtain ⟨⟨⟨ho, hi⟩, hz⟩, he, hn⟩ := hu
    have h9 := (oInv_out ho).2.2.2.2 5 (by decide)
    omega
  · rename_i zz hu tl h1 h2
    (conv => whnf)
    obtain ⟨⟨⟨ho, hi⟩, hz⟩, he, hn⟩ := hu
    (conv => whnf); refine enter_mk (la := laO l st) ⟨u.y, putL u.q 5 (oZ zz), u.now, u.i + 1, ⟨u.h.q0, u.h.q1, u.h.q2, u.h.q3, u.h.q4, ⟨_, _⟩, u.h.q6, u.h.q7⟩⟩ ?_ (by (repeat' (first | ((conv => whnf); first | refine ⟨?_, ?_⟩ | exact trivial | fail) | (dsimp only; done) | ((try dsimp only); first | with_reducible exact rfl | exact Nat.le_refl _ | with_reducible exact (fun _ _ => rfl)))); all_goals ((first | rfl | exact fun _ _ => rfl | exact p_at he | exact p_ne he (by decide) | exact cnt_i ho hi | exact mu_i hi hn)))
    exact o_yes ho hi he hz (fun c hsz => ⟨zok_ne he (by decide) c.q0, zok_ne he (by decide) c.q1, zok_ne he (by decide) c.q2, zok_ne he (by decide) c.q3, zok_ne he (by decide) c.q4, zok_at he c.q5 h1 h2 (fun r hr => rz_lt hr) rz_at, zok_ne he (by decide) c.q6, zok_ne he (by decide) c.q7, hsz⟩)
  · rename_i zz hu
    obtain ⟨⟨⟨ho, hi⟩, hz⟩, he, hn⟩ := hu
    exact (oInv_out ho).2.2.1.q5.n
  · rename_i zz hu
    obtain ⟨⟨⟨ho, hi⟩, hz⟩, he, hn⟩ := hu
    exact (oInv_out ho).2.2.1.q5.c
  · rename_i zz hu
    obtain ⟨⟨⟨ho, hi⟩, hz⟩, he, hn⟩ := hu
    have h9 := (oInv_out ho).2.2.2.2 5 (by decide)
    omega
  · rename_i zz hu tl h1 h2
    (conv => whnf)
    obtain ⟨⟨⟨ho, hi⟩, hz⟩, he, hn⟩ := hu
    (conv => whnf); refine enter_mk (la := laO l st) ⟨u.y, putL u.q 5 (oZ zz), u.now, u.i + 1, ⟨u.h.q0, u.h.q1, u.h.q2, u.h.q3, u.h.q4, ⟨_, _⟩, u.h.q6, u.h.q7⟩⟩ ?_ (by (repeat' (first | ((conv => whnf); first | refine ⟨?_, ?_⟩ | exact trivial | fail) | (dsimp only; done) | ((try dsimp only); first | with_reducible exact rfl | exact Nat.le_refl _ | with_reducible exact (fun _ _ => rfl)))); all_goals ((first | rfl | exact fun _ _ => rfl | exact p_at he | exact p_ne he (by decide) | exact cnt_i ho hi | exact mu_i hi hn)))
    exact o_yes ho hi he hz (fun c hsz => ⟨zok_ne he (by decide) c.q0, zok_ne he (by decide) c.q1, zok_ne he (by decide) c.q2, zok_ne he (by decide) c.q3, zok_ne he (by decide) c.q4, zok_at he c.q5 h1 h2 (fun r hr => rz_lt hr) rz_at, zok_ne he (by decide) c.q6, zok_ne he (by decide) c.q7, hsz⟩)
  · rename_i zz hu
    obtain ⟨⟨⟨ho, hi⟩, hz⟩, he, hn⟩ := hu
    exact (oInv_out ho).2.2.1.q6.n
  · rename_i zz hu
    obtain ⟨⟨⟨ho, hi⟩, hz⟩, he, hn⟩ := hu
    exact (oInv_out ho).2.2.1.q6.c
  · rename_i zz hu
    obtain ⟨⟨⟨ho, hi⟩, hz⟩, he, hn⟩ := hu
    have h9 := (oInv_out ho).2.2.2.2 6 (by decide)
    omega
  · rename_i zz hu tl h1 h2
    (conv => whnf)
    obtain ⟨⟨⟨ho, hi⟩, hz⟩, he, hn⟩ := hu
    (conv => whnf); refine enter_mk (la := laO l st) ⟨u.y, putL u.q 6 (oZ zz), u.now, u.i + 1, ⟨u.h.q0, u.h.q1, u.h.q2, u.h.q3, u.h.q4, u.h.q5, ⟨_, _⟩, u.h.q7⟩⟩ ?_ (by (repeat' (first | ((conv => whnf); first | refine ⟨?_, ?_⟩ | exact trivial | fail) | (dsimp only; done) | ((try dsimp only); first | with_reducible exact rfl | exact Nat.le_refl _ | with_reducible exact (fun _ _ => rfl)))); all_goals ((first | rfl | exact fun _ _ => rfl | exact p_at he | exact p_ne he (by decide) | exact cnt_i ho hi | exact mu_i hi hn)))
    exact o_yes ho hi he hz (fun c hsz => ⟨zok_ne he (by decide) c.q0, zok_ne he (by decide) c.q1, zok_ne he (by decide) c.q2, zok_ne he (by decide) c.q3, zok_ne he (by decide) c.q4, zok_ne he (by decide) c.q5, zok_at he c.q6 h1 h2 (fun r hr => rz_lt hr) rz_at, zok_ne he (by decide) c.q7, hsz⟩)
  · rename_i zz hu
    obtain ⟨⟨⟨ho, hi⟩, hz⟩, he, hn⟩ := hu
    exact (oInv_out ho).2.2.1.q6.n
  · rename_i zz hu
    obtain ⟨⟨⟨ho, hi⟩, hz⟩, he, hn⟩ := hu
    exact (oInv_out ho).2.2.1.q6.c
  · rename_i zz hu
    obtain ⟨⟨⟨ho, hi⟩, hz⟩, he, hn⟩ := hu
    have h9 := (oInv_out ho).2.2.2.2 6 (by decide)
    omega
  · rename_i zz hu tl h1 h2
    (conv => whnf)
    obtain ⟨⟨⟨ho, hi⟩, hz⟩, he, hn⟩ := hu
    (conv => whnf); refine enter_mk (la := laO l st) ⟨u.y, putL u.q 6 (oZ zz), u.now, u.i + 1, ⟨u.h.q0, u.h.q1, u.h.q2, u.h.q3, u.h.q4, u.h.q5, ⟨_, _⟩, u.h.q7⟩⟩ ?_ (by (repeat' (first | ((conv => whnf); first | refine ⟨?_, ?_⟩ | exact trivial | fail) | (dsimp only; done) | ((try dsimp only); first | with_reducible exact rfl | exact Nat.le_refl _ | with_reducible exact (fun _ _ => rfl)))); all_goals ((first | rfl | exact fun _ _ => rfl | exact p_at he | exact p_ne he (by decide) | exact cnt_i ho hi | exact mu_i hi hn)))
    exact o_yes ho hi he hz (fun c hsz => ⟨zok_ne he (by decide) c.q0, zok_ne he (by decide) c.q1, zok_ne he (by decide) c.q2, zok_ne he (by decide) c.q3, zok_ne he (by decide) c.q4, zok_ne he (by decide) c.q5, zok_at he c.q6 h1 h2 (fun r hr => rz_lt hr) rz_at, zok_ne he (by decide) c.q7, hsz⟩)
  · rename_i zz hu
    obtain ⟨⟨⟨ho, hi⟩, hz⟩, he, hn⟩ := hu
    exact (oInv_out ho).2.2.1.q7.n
  · rename_i zz hu
    obtain ⟨⟨⟨ho, hi⟩, hz⟩, he, hn⟩ := hu
    exact (oInv_out ho).2.2.1.q7.c
  · rename_i zz hu
    obtain ⟨⟨⟨ho, hi⟩, hz⟩, he, hn⟩ := hu
    have h9 := (oInv_out ho).2.2.2.2 7 (by decide)
    omega
  · rename_i zz hu tl h1 h2
    (conv => whnf)
    obtain ⟨⟨⟨ho, hi⟩, hz⟩, he, hn⟩ := hu
    (conv => whnf); refine enter_mk (la := laO l st) ⟨u.y, putL u.q 7 (oZ zz), u.now, u.i + 1, ⟨u.h.q0, u.h.q1, u.h.q2, u.h.q3, u.h.q4, u.h.q5, u.h.q6, ⟨_, _⟩⟩⟩ ?_ (by (repeat' (first | ((conv => whnf); first | refine ⟨?_, ?_⟩ | exact trivial | fail) | (dsimp only; done) | ((try dsimp only); first | with_reducible exact rfl | exact Nat.le_refl _ | with_reducible exact (fun _ _ => rfl)))); all_goals ((first | rfl | exact fun _ _ => rfl | exact p_at he | exact p_ne he (by decide) | exact cnt_i ho hi | exact mu_i hi hn)))
    exact o_yes ho hi he hz (fun c hsz => ⟨zok_ne he (by decide) c.q0, zok_ne he (by decide) c.q1, zok_ne he (by decide) c.q2, zok_ne he (by decide) c.q3, zok_ne he (by decide) c.q4, zok_ne he (by decide) c.q5, zok_ne he (by decide) c.q6, zok_at he c.q7 h1 h2 (fun r hr => rz_lt hr) rz_at, hsz⟩)
  · rename_i zz hu
    obtain ⟨⟨⟨ho, hi⟩, hz⟩, he, hn⟩ := hu
    exact (oInv_out ho).2.2.1.q7.n
  · rename_i zz hu
    obtain ⟨⟨⟨ho, hi⟩, hz⟩, he, hn⟩ := hu
    exact (oInv_out ho).2.2.1.q7.c
  · rename_i zz hu
    obtain ⟨⟨⟨ho, hi⟩, hz⟩, he, hn⟩ := hu
    have h9 := (oInv_out ho).2.2.2.2 7 (by decide)
    omega
  · rename_i zz hu tl h1 h2
    (conv => whnf)
    obtain ⟨⟨⟨ho, hi⟩, hz⟩, he, hn⟩ := hu
    (conv => whnf); refine enter_mk (la := laO l st) ⟨u.y, putL u.q 7 (oZ zz), u.now, u.i + 1, ⟨u.h.q0, u.h.q1, u.h.q2, u.h.q3, u.h.q4, u.h.q5, u.h.q6, ⟨_, _⟩⟩⟩ ?_ (by (repeat' (first | ((conv => whnf); first | refine ⟨?_, ?_⟩ | exact trivial | fail) | (dsimp only; done) | ((try dsimp only); first | with_reducible exact rfl | exact Nat.le_refl _ | with_reducible exact (fun _ _ => rfl)))); all_goals ((first | rfl | exact fun _ _ => rfl | exact p_at he | exact p_ne he (by decide) | exact cnt_i ho hi | exact mu_i hi hn)))
    exact o_yes ho hi he hz (fun c hsz => ⟨zok_ne he (by decide) c.q0, zok_ne he (by decide) c.q1, zok_ne he (by decide) c.q2, zok_ne he (by decide) c.q3, zok_ne he (by decide) c.q4, zok_ne he (by decide) c.q5, zok_ne he (by decide) c.q6, zok_at he c.q7 h1 h2 (fun r hr => rz_lt hr) rz_at, hsz⟩)
  · rename_i zz cc hu
    (conv => whnf)
    obtain ⟨⟨⟨ho, hi⟩, hz⟩, he, hn⟩ := hu
    (conv => whnf); refine enter_mk (la := laO l st) ⟨u.y, putL u.q cc (oZ zz), u.now, u.i + 1, u.h⟩ ?_ (by (repeat' (first | ((conv => whnf); first | refine ⟨?_, ?_⟩ | exact trivial | fail) | (dsimp only; done) | ((try dsimp only); first | with_reducible exact rfl | exact Nat.le_refl _ | with_reducible exact (fun _ _ => rfl)))); all_goals ((first | rfl | exact fun _ _ => rfl | exact p_no he | exact cnt_i ho hi | exact mu_i hi hn)))
    exact o_no ho hi he
  · exact (now_bd (by assumption : oInv l st x) (by omega) _).1
  · exact (now_bd (by assumption : oInv l st x) (by omega) _).2.2
  · have hx := (by assumption : oInv l st x)
    have hi : x.i < st.len := by omega
    (conv => whnf)
    (conv => whnf); refine enter_mk (la := laN l st (x.i : Int)) ⟨⟨x.y, x.q, (IntKind.i64.wrap (x.now + bits .and .i64 (st.d (0 + (x.i : Int).toNat)) 65535)), x.i, x.h⟩, nxO (opP l x.y x.q) (IntKind.i64.wrap (x.now + bits .and .i64 (st.d (0 + (x.i : Int).toNat)) 65535))⟩ ?_ (by (repeat' (first | ((conv => whnf); first | refine ⟨?_, ?_⟩ | exact trivial | fail) | (dsimp only; done) | ((try dsimp only); first | with_reducible exact rfl | exact Nat.le_refl _ | with_reducible exact (fun _ _ => rfl)))); all_goals ((first | rfl | exact fun _ _ => rfl)))
    exact n_in hx hi
  · (conv => whnf); refine enter_mk (la := laK l st (v.x.i : Int)) (.k8 v) ?_ (by (repeat' (first | ((conv => whnf); first | refine ⟨?_, ?_⟩ | exact trivial | fail) | (dsimp only; done) | ((try dsimp only); first | with_reducible exact rfl | exact Nat.le_refl _ | with_reducible exact (fun _ _ => rfl)))); all_goals (rfl))
    have hu := nInv_out (by assumption : nInv l st (x.i : Int) v)
    exact ⟨hu.1, hu.2.1, rfl⟩
  · have hv := (by assumption : nInv l st (v.x.i : Int) w)
    have h9 := pk_9 w.x.q (lf8 (cp l w.x.y) 0 false w.x.now)
    rw [← (nInv_out hv).2.1] at h9
    (conv => whnf)
    rcases h9 with e | e | e | e | e | e | e | e | e
    · (conv => whnf); refine enter_mk (la := laG l st (v.x.i : Int)) (.no w.x) ?_ (by (repeat' (first | ((conv => whnf); first | refine ⟨?_, ?_⟩ | exact trivial | fail) | (dsimp only; done) | ((try dsimp only); first | with_reducible exact rfl | exact Nat.le_refl _ | with_reducible exact (fun _ _ => rfl)))); all_goals ((first | rfl | exact fun _ _ => rfl | exact (pkC_e e).symm | exact (pkC_f e).symm | exact (pkB_e e).symm | exact (pkB_f e).symm | (rw [pkI_e e] <;> rfl) | (rw [pkI_f e] <;> rfl) | (rw [e] <;> rfl))))
      exact ⟨(nInv_out hv).1, e.symm.trans (nInv_out hv).2.1, (nInv_out hv).2.2⟩
    · (conv => whnf); refine enter_mk (la := laG l st (v.x.i : Int)) (.g0 w.x) ?_ (by (repeat' (first | ((conv => whnf); first | refine ⟨?_, ?_⟩ | exact trivial | fail) | (dsimp only; done) | ((try dsimp only); first | with_reducible exact rfl | exact Nat.le_refl _ | with_reducible exact (fun _ _ => rfl)))); all_goals ((first | rfl | exact fun _ _ => rfl | exact (pkC_e e).symm | exact (pkC_f e).symm | exact (pkB_e e).symm | exact (pkB_f e).symm | (rw [pkI_e e] <;> rfl) | (rw [pkI_f e] <;> rfl) | (rw [e] <;> rfl))))
      exact ⟨(nInv_out hv).1, e.symm.trans (nInv_out hv).2.1, (nInv_out hv).2.2⟩
    · (conv => whnf); refine enter_mk (la := laG l st (v.x.i : Int)) (.g1 w.x) ?_ (by (repeat' (first | ((conv => whnf); first | refine ⟨?_, ?_⟩ | exact trivial | fail) | (dsimp only; done) | ((try dsimp only); first | with_reducible exact rfl | exact Nat.le_refl _ | with_reducible exact (fun _ _ => rfl)))); all_goals ((first | rfl | exact fun _ _ => rfl | exact (pkC_e e).symm | exact (pkC_f e).symm | exact (pkB_e e).symm | exact (pkB_f e).symm | (rw [pkI_e e] <;> rfl) | (rw [pkI_f e] <;> rfl) | (rw [e] <;> rfl))))
      exact ⟨(nInv_out hv).1, e.symm.trans (nInv_out hv).2.1, (nInv_out hv).2.2⟩
    · (conv => whnf); refine enter_mk (la := laG l st (v.x.i : Int)) (.g2 w.x) ?_ (by (repeat' (first | ((conv => whnf); first | refine ⟨?_, ?_⟩ | exact trivial | fail) | (dsimp only; done) | ((try dsimp only); first | with_reducible exact rfl | exact Nat.le_refl _ | with_reducible exact (fun _ _ => rfl)))); all_goals ((first | rfl | exact fun _ _ => rfl | exact (pkC_e e).symm | exact (pkC_f e).symm | exact (pkB_e e).symm | exact (pkB_f e).symm | (rw [pkI_e e] <;> rfl) | (rw [pkI_f e] <;> rfl) | (rw [e] <;> rfl))))
      exact ⟨(nInv_out hv).1, e.symm.trans (nInv_out hv).2.1, (nInv_out hv).2.2⟩
    · (conv => whnf); refine enter_mk (la := laG l st (v.x.i : Int)) (.g3 w.x) ?_ (by (repeat' (first | ((conv => whnf); first | refine ⟨?_, ?_⟩ | exact trivial | fail) | (dsimp only; done) | ((try dsimp only); first | with_reducible exact rfl | exact Nat.le_refl _ | with_reducible exact (fun _ _ => rfl)))); all_goals ((first | rfl | exact fun _ _ => rfl | exact (pkC_e e).symm | exact (pkC_f e).symm | exact (pkB_e e).symm | exact (pkB_f e).symm | (rw [pkI_e e] <;> rfl) | (rw [pkI_f e] <;> rfl) | (rw [e] <;> rfl))))
      exact ⟨(nInv_out hv).1, e.symm.trans (nInv_out hv).2.1, (nInv_out hv).2.2⟩
    · (conv => whnf); refine enter_mk (la := laG l st (v.x.i : Int)) (.g4 w.x) ?_ (by (repeat' (first | ((conv => whnf); first | refine ⟨?_, ?_⟩ | exact trivial | fail) | (dsimp only; done) | ((try dsimp only); first | with_reducible exact rfl | exact Nat.le_refl _ | with_reducible exact (fun _ _ => rfl)))); all_goals ((first | rfl | exact fun _ _ => rfl | exact (pkC_e e).symm | exact (pkC_f e).symm | exact (pkB_e e).symm | exact (pkB_f e).symm | (rw [pkI_e e] <;> rfl) | (rw [pkI_f e] <;> rfl) | (rw [e] <;> rfl))))
      exact ⟨(nInv_out hv).1, e.symm.trans (nInv_out hv).2.1, (nInv_out hv).2.2⟩
    · (conv => whnf); refine enter_mk (la := laG l st (v.x.i : Int)) (.g5 w.x) ?_ (by (repeat' (first | ((conv => whnf); first | refine ⟨?_, ?_⟩ | exact trivial | fail) | (dsimp only; done) | ((try dsimp only); first | with_reducible exact rfl | exact Nat.le_refl _ | with_reducible exact (fun _ _ => rfl)))); all_goals ((first | rfl | exact fun _ _ => rfl | exact (pkC_e e).symm | exact (pkC_f e).symm | exact (pkB_e e).symm | exact (pkB_f e).symm | (rw [pkI_e e] <;> rfl) | (rw [pkI_f e] <;> rfl) | (rw [e] <;> rfl))))
      exact ⟨(nInv_out hv).1, e.symm.trans (nInv_out hv).2.1, (nInv_out hv).2.2⟩
    · (conv => whnf); refine enter_mk (la := laG l st (v.x.i : Int)) (.g6 w.x) ?_ (by (repeat' (first | ((conv => whnf); first | refine ⟨?_, ?_⟩ | exact trivial | fail) | (dsimp only; done) | ((try dsimp only); first | with_reducible exact rfl | exact Nat.le_refl _ | with_reducible exact (fun _ _ => rfl)))); all_goals ((first | rfl | exact fun _ _ => rfl | exact (pkC_e e).symm | exact (pkC_f e).symm | exact (pkB_e e).symm | exact (pkB_f e).symm | (rw [pkI_e e] <;> rfl) | (rw [pkI_f e] <;> rfl) | (rw [e] <;> rfl))))
      exact ⟨(nInv_out hv).1, e.symm.trans (nInv_out hv).2.1, (nInv_out hv).2.2⟩
    · (conv => whnf); refine enter_mk (la := laG l st (v.x.i : Int)) (.g7 w.x) ?_ (by (repeat' (first | ((conv => whnf); first | refine ⟨?_, ?_⟩ | exact trivial | fail) | (dsimp only; done) | ((try dsimp only); first | with_reducible exact rfl | exact Nat.le_refl _ | with_reducible exact (fun _ _ => rfl)))); all_goals ((first | rfl | exact fun _ _ => rfl | exact (pkC_e e).symm | exact (pkC_f e).symm | exact (pkB_e e).symm | exact (pkB_f e).symm | (rw [pkI_e e] <;> rfl) | (rw [pkI_f e] <;> rfl) | (rw [e] <;> rfl))))
      exact ⟨(nInv_out hv).1, e.symm.trans (nInv_out hv).2.1, (nInv_out hv).2.2⟩
  · have hv := (by assumption : nInv l st (v.x.i : Int) w)
    have hz := (oInv_out (nInv_out hv).1.1).2.2.1.q0.n
    have hz : w.x.q.n 0 ≤ w.x.h.q0.c := hz
    omega
  · have hv := (by assumption : nInv l st (v.x.i : Int) w)
    have hz := (oInv_out (nInv_out hv).1.1).2.2.1.q0.n
    have hz : w.x.q.n 0 ≤ w.x.h.q0.c := hz
    omega
  · have hv := (by assumption : nInv l st (v.x.i : Int) w)
    have h9 := (k_fit hv (j := 0) (by decide) (oInv_out (nInv_out hv).1.1).2.2.1.q0 (by assumption) (by assumption)).1
    exact absurd (by assumption : (!pkB w.o) = true) (by rw [h9]; decide)
  · have hv := (by assumption : nInv l st (v.x.i : Int) w)
    have h9 := (k_fit hv (j := 0) (by decide) (oInv_out (nInv_out hv).1.1).2.2.1.q0 (by assumption) (by assumption)).2
    exact absurd (by assumption : pkC w.o < 0) (by omega)
  · have hv := (by assumption : nInv l st (v.x.i : Int) w)
    (conv => whnf); refine enter_mk (la := laK l st (v.x.i : Int)) (.k0 w) ?_ (by (repeat' (first | ((conv => whnf); first | refine ⟨?_, ?_⟩ | exact trivial | fail) | (dsimp only; done) | ((try dsimp only); first | with_reducible exact rfl | exact Nat.le_refl _ | with_reducible exact (fun _ _ => rfl)))); all_goals ((first | rfl | exact fun _ _ => rfl | exact Nat.lt_succ_self _ | decide)))
    exact hv
  · have hv := (by assumption : nInv l st (v.x.i : Int) w)
    (conv => whnf); refine enter_mk (la := laK l st (v.x.i : Int)) (.k0 w) ?_ (by (repeat' (first | ((conv => whnf); first | refine ⟨?_, ?_⟩ | exact trivial | fail) | (dsimp only; done) | ((try dsimp only); first | with_reducible exact rfl | exact Nat.le_refl _ | with_reducible exact (fun _ _ => rfl)))); all_goals ((first | rfl | exact fun _ _ => rfl | exact Nat.lt_succ_self _ | decide)))
    exact hv
  · have hv := (by assumption : nInv l st (v.x.i : Int) w)
    (conv => whnf); refine enter_mk (la := laK l st (v.x.i : Int)) (.k0 w) ?_ (by (repeat' (first | ((conv => whnf); first | refine ⟨?_, ?_⟩ | exact trivial | fail) | (dsimp only; done) | ((try dsimp only); first | with_reducible exact rfl | exact Nat.le_refl _ | with_reducible exact (fun _ _ => rfl)))); all_goals ((first | rfl | exact fun _ _ => rfl | exact Nat.lt_succ_self _ | decide)))
    exact hv
  · have hv := (by assumption : nInv l st (v.x.i : Int) w)
    have hz := (oInv_out (nInv_out hv).1.1).2.2.1.q1.n
    have hz : w.x.q.n 1 ≤ w.x.h.q1.c := hz
    omega
  · have hv := (by assumption : nInv l st (v.x.i : Int) w)
    have hz := (oInv_out (nInv_out hv).1.1).2.2.1.q1.n
    have hz : w.x.q.n 1 ≤ w.x.h.q1.c := hz
    omega
  · have hv := (by assumption : nInv l st (v.x.i : Int) w)
    have h9 := (k_fit hv (j := 1) (by decide) (oInv_out (nInv_out hv).1.1).2.2.1.q1 (by assumption) (by assumption)).1
    exact absurd (by assumption : (!pkB w.o) = true) (by rw [h9]; decide)
  · have hv := (by assumption : nInv l st (v.x.i : Int) w)
    have h9 := (k_fit hv (j := 1) (by decide) (oInv_out (nInv_out hv).1.1).2.2.1.q1 (by assumption) (by assumption)).2
    exact absurd (by assumption : pkC w.o < 1) (by omega)
  · have hv := (by assumption : nInv l st (v.x.i : Int) w)
    (conv => whnf); refine enter_mk (la := laK l st (v.x.i : Int)) (.k1 w) ?_ (by (repeat' (first | ((conv => whnf); first | refine ⟨?_, ?_⟩ | exact trivial | fail) | (dsimp only; done) | ((try dsimp only); first | with_reducible exact rfl | exact Nat.le_refl _ | with_reducible exact (fun _ _ => rfl)))); all_goals ((first | rfl | exact fun _ _ => rfl | exact Nat.lt_succ_self _ | decide)))
    exact hv
  · have hv := (by assumption : nInv l st (v.x.i : Int) w)
    (conv => whnf); refine enter_mk (la := laK l st (v.x.i : Int)) (.k1 w) ?_ (by (repeat' (first | ((conv => whnf); first | refine ⟨?_, ?_⟩ | exact trivial | fail) | (dsimp only; done) | ((try dsimp only); first | with_reducible exact rfl | exact Nat.le_refl _ | with_reducible exact (fun _ _ => rfl)))); all_goals ((first | rfl | exact fun _ _ => rfl | exact Nat.lt_succ_self _ | decide)))
    exact hv
  · have hv := (by assumption : nInv l st (v.x.i : Int) w)
    (conv => whnf); refine enter_mk (la := laK l st (v.x.i : Int)) (.k1 w) ?_ (by (repeat' (first | ((conv => whnf); first | refine ⟨?_, ?_⟩ | exact trivial | fail) | (dsimp only; done) | ((try dsimp only); first | with_reducible exact rfl | exact Nat.le_refl _ | with_reducible exact (fun _ _ => rfl)))); all_goals ((first | rfl | exact fun _ _ => rfl | exact Nat.lt_succ_self _ | decide)))
    exact hv
  · have hv := (by assumption : nInv l st (v.x.i : Int) w)
    have hz := (oInv_out (nInv_out hv).1.1).2.2.1.q2.n
    have hz : w.x.q.n 2 ≤ w.x.h.q2.c := hz
    omega
  · have hv := (by assumption : nInv l st (v.x.i : Int) w)
    have hz := (oInv_out (nInv_out hv).1.1).2.2.1.q2.n
    have hz : w.x.q.n 2 ≤ w.x.h.q2.c := hz
    omega
  · have hv := (by assumption : nInv l st (v.x.i : Int) w)
    have h9 := (k_fit hv (j := 2) (by decide) (oInv_out (nInv_out hv).1.1).2.2.1.q2 (by assumption) (by assumption)).1
    exact absurd (by assumption : (!pkB w.o) = true) (by rw [h9]; decide)
  · have hv := (by assumption : nInv l st (v.x.i : Int) w)
    have h9 := (k_fit hv (j := 2) (by decide) (oInv_out (nInv_out hv).1.1).2.2.1.q2 (by assumption) (by assumption)).2
    exact absurd (by assumption : pkC w.o < 2) (by omega)
  · have hv := (by assumption : nInv l st (v.x.i : Int) w)
    (conv => whnf); refine enter_mk (la := laK l st (v.x.i : Int)) (.k2 w) ?_ (by (repeat' (first | ((conv => whnf); first | refine ⟨?_, ?_⟩ | exact trivial | fail) | (dsimp only; done) | ((try dsimp only); first | with_reducible exact rfl | exact Nat.le_refl _ | with_reducible exact (fun _ _ => rfl)))); all_goals ((first | rfl | exact fun _ _ => rfl | exact Nat.lt_succ_self _ | decide)))
    exact hv
  · have hv := (by assumption : nInv l st (v.x.i : Int) w)
    (conv => whnf); refine enter_mk (la := laK l st (v.x.i : Int)) (.k2 w) ?_ (by (repeat' (first | ((conv => whnf); first | refine ⟨?_, ?_⟩ | exact trivial | fail) | (dsimp only; done) | ((try dsimp only); first | with_reducible exact rfl | exact Nat.le_refl _ | with_reducible exact (fun _ _ => rfl)))); all_goals ((first | rfl | exact fun _ _ => rfl | exact Nat.lt_succ_self _ | decide)))
    exact hv
  · have hv := (by assumption : nInv l st (v.x.i : Int) w)
    (conv => whnf); refine enter_mk (la := laK l st (v.x.i : Int)) (.k2 w) ?_ (by (repeat' (first | ((conv => whnf); first | refine ⟨?_, ?_⟩ | exact trivial | fail) | (dsimp only; done) | ((try dsimp only); first | with_reducible exact rfl | exact Nat.le_refl _ | with_reducible exact (fun _ _ => rfl)))); all_goals ((first | rfl | exact fun _ _ => rfl | exact Nat.lt_succ_self _ | decide)))
    exact hv
  · have hv := (by assumption : nInv l st (v.x.i : Int) w)
    have hz := (oInv_out (nInv_out hv).1.1).2.2.1.q3.n
    have hz : w.x.q.n 3 ≤ w.x.h.q3.c := hz
    omega
  · have hv := (by assumption : nInv l st (v.x.i : Int) w)
    have hz := (oInv_out (nInv_out hv).1.1).2.2.1.q3.n
    have hz : w.x.q.n 3 ≤ w.x.h.q3.c := hz
    omega
  · have hv := (by assumption : nInv l st (v.x.i : Int) w)
    have h9 := (k_fit hv (j := 3) (by decide) (oInv_out (nInv_out hv).1.1).2.2.1.q3 (by assumption) (by assumption)).1
    exact absurd (by assumption : (!pkB w.o) = true) (by rw [h9]; decide)
  · have hv := (by assumption : nInv l st (v.x.i : Int) w)
    have h9 := (k_fit hv (j := 3) (by decide) (oInv_out (nInv_out hv).1.1).2.2.1.q3 (by assumption) (by assumption)).2
    exact absurd (by assumption : pkC w.o < 3) (by omega)
  · have hv := (by assumption : nInv l st (v.x.i : Int) w)
    (conv => whnf); refine enter_mk (la := laK l st (v.x.i : Int)) (.k3 w) ?_ (by (repeat' (first | ((conv => whnf); first | refine ⟨?_, ?_⟩ | exact trivial | fail) | (dsimp only; done) | ((try dsimp only); first | with_reducible exact rfl | exact Nat.le_refl _ | with_reducible exact (fun _ _ => rfl)))); all_goals ((first | rfl | exact fun _ _ => rfl | exact Nat.lt_succ_self _ | decide)))
    exact hv
  · have hv := (by assumption : nInv l st (v.x.i : Int) w)
    (conv => whnf); refine enter_mk (la := laK l st (v.x.i : Int)) (.k3 w) ?_ (by (repeat' (first | ((conv => whnf); first | refine ⟨?_, ?_⟩ | exact trivial | fail) | (dsimp only; done) | ((try dsimp only); first | with_reducible exact rfl | exact Nat.le_refl _ | with_reducible exact (fun _ _ => rfl)))); all_goals ((first | rfl | exact fun _ _ => rfl | exact Nat.lt_succ_self _ | decide)))
    exact hv
  · have hv := (by assumption : nInv l st (v.x.i : Int) w)
    (conv => whnf); refine enter_mk (la := laK l st (v.x.i : Int)) (.k3 w) ?_ (by (repeat' (first | ((conv => whnf); first | refine ⟨?_, ?_⟩ | exact trivial | fail) | (dsimp only; done) | ((try dsimp only); first | with_reducible exact rfl | exact Nat.le_refl _ | with_reducible exact (fun _ _ => rfl)))); all_goals ((first | rfl | exact fun _ _ => rfl | exact Nat.lt_succ_self _ | decide)))
    exact hv
  · have hv := (by assumption : nInv l st (v.x.i : Int) w)
    have hz := (oInv_out (nInv_out hv).1.1).2.2.1.q4.n
    have hz : w.x.q.n 4 ≤ w.x.h.q4.c := hz
    omega
  · have hv := (by assumption : nInv l st (v.x.i : Int) w)
    have hz := (oInv_out (nInv_out hv).1.1).2.2.1.q4.n
    have hz : w.x.q.n 4 ≤ w.x.h.q4.c := hz
    omega
  · have hv := (by assumption : nInv l st (v.x.i : Int) w)
    have h9 := (k_fit hv (j := 4) (by decide) (oInv_out (nInv_out hv).1.1).2.2.1.q4 (by assumption) (by assumption)).1
    exact absurd (by assumption : (!pkB w.o) = true) (by rw [h9]; decide)
  · have hv := (by assumption : nInv l st (v.x.i : Int) w)
    have h9 := (k_fit hv (j := 4) (by decide) (oInv_out (nInv_out hv).1.1).2.2.1.q4 (by assumption) (by assumption)).2
    exact absurd (by assumption : pkC w.o < 4) (by omega)
  · have hv := (by assumption : nInv l st (v.x.i : Int) w)
    (conv => whnf); refine enter_mk (la := laK l st (v.x.i : Int)) (.k4 w) ?_ (by (repeat' (first | ((conv => whnf); first | refine ⟨?_, ?_⟩ | exact trivial | fail) | (dsimp only; done) | ((try dsimp only); first | with_reducible exact rfl | exact Nat.le_refl _ | with_reducible exact (fun _ _ => rfl)))); all_goals ((first | rfl | exact fun _ _ => rfl | exact Nat.lt_succ_self _ | decide)))
    exact hv
  · have hv := (by assumption : nInv l st (v.x.i : Int) w)
    (conv => whnf); refine enter_mk (la := laK l st (v.x.i : Int)) (.k4 w) ?_ (by (repeat' (first | ((conv => whnf); first | refine ⟨?_, ?_⟩ | exact trivial | fail) | (dsimp only; done) | ((try dsimp only); first | with_reducible exact rfl | exact Nat.le_refl _ | with_reducible exact (fun _ _ => rfl)))); all_goals ((first | rfl | exact fun _ _ => rfl | exact Nat.lt_succ_self _ | decide)))
    exact hv
  · have hv := (by assumption : nInv l st (v.x.i : Int) w)
    (conv => whnf); refine enter_mk (la := laK l st (v.x.i : Int)) (.k4 w) ?_ (by (repeat' (first | ((conv => whnf); first | refine ⟨?_, ?_⟩ | exact trivial | fail) | (dsimp only; done) | ((try dsimp only); first | with_reducible exact rfl | exact Nat.le_refl _ | with_reducible exact (fun _ _ => rfl)))); all_goals ((first | rfl | exact fun _ _ => rfl | exact Nat.lt_succ_self _ | decide)))
    exact hv
  · have hv := (by assumption : nInv l st (v.x.i : Int) w)
    have hz := (oInv_out (nInv_out hv).1.1).2.2.1.q5.n
    have hz : w.x.q.n 5 ≤ w.x.h.q5.c := hz
    omega
  · have hv := (by assumption : nInv l st (v.x.i : Int) w)
    have hz := (oInv_out (nInv_out hv).1.1).2.2.1.q5.n
    have hz : w.x.q.n 5 ≤ w.x.h.q5.c := hz
    omega
  · have hv := (by assumption : nInv l st (v.x.i : Int) w)
    have h9 := (k_fit hv (j := 5) (by decide) (oInv_out (nInv_out hv).1.1).2.2.1.q5 (by assumption) (by assumption)).1
    exact absurd (by assumption : (!pkB w.o) = true) (by rw [h9]; decide)
  · have hv := (by assumption : nInv l st (v.x.i : Int) w)
    have h9 := (k_fit hv (j := 5) (by decide) (oInv_out (nInv_out hv).1.1).2.2.1.q5 (by assumption) (by assumption)).2
    exact absurd (by assumption : pkC w.o < 5) (by omega)
  · have hv := (by assumption : nInv l st (v.x.i : Int) w)
    (conv => whnf); refine enter_mk (la := laK l st (v.x.i : Int)) (.k5 w) ?_ (by (repeat' (first | ((conv => whnf); first | refine ⟨?_, ?_⟩ | exact trivial | fail) | (dsimp only; done) | ((try dsimp only); first | with_reducible exact rfl | exact Nat.le_refl _ | with_reducible exact (fun _ _ => rfl)))); all_goals ((first | rfl | exact fun _ _ => rfl | exact Nat.lt_succ_self _ | decide)))
    exact hv
  · have hv := (by assumption : nInv l st (v.x.i : Int) w)
    (conv => whnf); refine enter_mk (la := laK l st (v.x.i : Int)) (.k5 w) ?_ (by (repeat' (first | ((conv => whnf); first | refine ⟨?_, ?_⟩ | exact trivial | fail) | (dsimp only; done) | ((try dsimp only); first | with_reducible exact rfl | exact Nat.le_refl _ | with_reducible exact (fun _ _ => rfl)))); all_goals ((first | rfl | exact fun _ _ => rfl | exact Nat.lt_succ_self _ | decide)))
    exact hv
  · have hv := (by assumption : nInv l st (v.x.i : Int) w)
    (conv => whnf); refine enter_mk (la := laK l st (v.x.i : Int)) (.k5 w) ?_ (by (repeat' (first | ((conv => whnf); first | refine ⟨?_, ?_⟩ | exact trivial | fail) | (dsimp only; done) | ((try dsimp only); first | with_reducible exact rfl | exact Nat.le_refl _ | with_reducible exact (fun _ _ => rfl)))); all_goals ((first | rfl | exact fun _ _ => rfl | exact Nat.lt_succ_self _ | decide)))
    exact hv
  · have hv := (by assumption : nInv l st (v.x.i : Int) w)
    have hz := (oInv_out (nInv_out hv).1.1).2.2.1.q6.n
    have hz : w.x.q.n 6 ≤ w.x.h.q6.c := hz
    omega
  · have hv := (by assumption : nInv l st (v.x.i : Int) w)
    have hz := (oInv_out (nInv_out hv).1.1).2.2.1.q6.n
    have hz : w.x.q.n 6 ≤ w.x.h.q6.c := hz
    omega
  · have hv := (by assumption : nInv l st (v.x.i : Int) w)
    have h9 := (k_fit hv (j := 6) (by decide) (oInv_out (nInv_out hv).1.1).2.2.1.q6 (by assumption) (by assumption)).1
    exact absurd (by assumption : (!pkB w.o) = true) (by rw [h9]; decide)
  · have hv := (by assumption : nInv l st (v.x.i : Int) w)
    have h9 := (k_fit hv (j := 6) (by decide) (oInv_out (nInv_out hv).1.1).2.2.1.q6 (by assumption) (by assumption)).2
    exact absurd (by assumption : pkC w.o < 6) (by omega)
  · have hv := (by assumption : nInv l st (v.x.i : Int) w)
    (conv => whnf); refine enter_mk (la := laK l st (v.x.i : Int)) (.k6 w) ?_ (by (repeat' (first | ((conv => whnf); first | refine ⟨?_, ?_⟩ | exact trivial | fail) | (dsimp only; done) | ((try dsimp only); first | with_reducible exact rfl | exact Nat.le_refl _ | with_reducible exact (fun _ _ => rfl)))); all_goals ((first | rfl | exact fun _ _ => rfl | exact Nat.lt_succ_self _ | decide)))
    exact hv
  · have hv := (by assumption : nInv l st (v.x.i : Int) w)
    (conv => whnf); refine enter_mk (la := laK l st (v.x.i : Int)) (.k6 w) ?_ (by (repeat' (first | ((conv => whnf); first | refine ⟨?_, ?_⟩ | exact trivial | fail) | (dsimp only; done) | ((try dsimp only); first | with_reducible exact rfl | exact Nat.le_refl _ | with_reducible exact (fun _ _ => rfl)))); all_goals ((first | rfl | exact fun _ _ => rfl | exact Nat.lt_succ_self _ | decide)))
    exact hv
  · have hv := (by assumption : nInv l st (v.x.i : Int) w)
    (conv => whnf); refine enter_mk (la := laK l st (v.x.i : Int)) (.k6 w) ?_ (by (repeat' (first | ((conv => whnf); first | refine ⟨?_, ?_⟩ | exact trivial | fail) | (dsimp only; done) | ((try dsimp only); first | with_reducible exact rfl | exact Nat.le_refl _ | with_reducible exact (fun _ _ => rfl)))); all_goals ((first | rfl | exact fun _ _ => rfl | exact Nat.lt_succ_self _ | decide)))
    exact hv
  · have hv := (by assumption : nInv l st (v.x.i : Int) w)
    have hz := (oInv_out (nInv_out hv).1.1).2.2.1.q7.n
    have hz : w.x.q.n 7 ≤ w.x.h.q7.c := hz
    omega
  · have hv := (by assumption : nInv l st (v.x.i : Int) w)
    have hz := (oInv_out (nInv_out hv).1.1).2.2.1.q7.n
    have hz : w.x.q.n 7 ≤ w.x.h.q7.c := hz
    omega
  · have hv := (by assumption : nInv l st (v.x.i : Int) w)
    have h9 := (k_fit hv (j := 7) (by decide) (oInv_out (nInv_out hv).1.1).2.2.1.q7 (by assumption) (by assumption)).1
    exact absurd (by assumption : (!pkB w.o) = true) (by rw [h9]; decide)
  · have hv := (by assumption : nInv l st (v.x.i : Int) w)
    have h9 := (k_fit hv (j := 7) (by decide) (oInv_out (nInv_out hv).1.1).2.2.1.q7 (by assumption) (by assumption)).2
    exact absurd (by assumption : pkC w.o < 7) (by omega)
  · have hv := (by assumption : nInv l st (v.x.i : Int) w)
    (conv => whnf); refine enter_mk (la := laK l st (v.x.i : Int)) (.k7 w) ?_ (by (repeat' (first | ((conv => whnf); first | refine ⟨?_, ?_⟩ | exact trivial | fail) | (dsimp only; done) | ((try dsimp only); first | with_reducible exact rfl | exact Nat.le_refl _ | with_reducible exact (fun _ _ => rfl)))); all_goals ((first | rfl | exact fun _ _ => rfl | exact Nat.lt_succ_self _ | decide)))
    exact hv
  · have hv := (by assumption : nInv l st (v.x.i : Int) w)
    (conv => whnf); refine enter_mk (la := laK l st (v.x.i : Int)) (.k7 w) ?_ (by (repeat' (first | ((conv => whnf); first | refine ⟨?_, ?_⟩ | exact trivial | fail) | (dsimp only; done) | ((try dsimp only); first | with_reducible exact rfl | exact Nat.le_refl _ | with_reducible exact (fun _ _ => rfl)))); all_goals ((first | rfl | exact fun _ _ => rfl | exact Nat.lt_succ_self _ | decide)))
    exact hv
  · have hv := (by assumption : nInv l st (v.x.i : Int) w)
    (conv => whnf); refine enter_mk (la := laK l st (v.x.i : Int)) (.k7 w) ?_ (by (repeat' (first | ((conv => whnf); first | refine ⟨?_, ?_⟩ | exact trivial | fail) | (dsimp only; done) | ((try dsimp only); first | with_reducible exact rfl | exact Nat.le_refl _ | with_reducible exact (fun _ _ => rfl)))); all_goals ((first | rfl | exact fun _ _ => rfl | exact Nat.lt_succ_self _ | decide)))
    exact hv
  · have hw := (by assumption : nInv l st (v.x.i : Int) ⟨s, none⟩)
    have hu := (nInv_out (by assumption : nInv l st (x.i : Int) v)).2.2
    have hi : s.i < st.len := (nInv_out hw).1.2.1
    have hn : (s.i : Int) = (x.i : Int) := (nInv_out hw).2.2.trans hu
    (conv => whnf); refine enter_mk (la := laO l st) ⟨s.y, s.q, s.now, s.i + 1, s.h⟩ ?_ (by (repeat' (first | ((conv => whnf); first | refine ⟨?_, ?_⟩ | exact trivial | fail) | (dsimp only; done) | ((try dsimp only); first | with_reducible exact rfl | exact Nat.le_refl _ | with_reducible exact (fun _ _ => rfl)))); all_goals ((first | rfl | exact fun _ _ => rfl | exact cnt_n hw | exact mu_i hi hn)))
    exact o_skip hw
  · have hw := (by assumption : nInv l st (v.x.i : Int) ⟨s, some 0⟩)
    obtain ⟨f1, f2, f3, f4⟩ := g_fit (by decide) hw
    have hz : ZOK s.q 0 s.h.q0 := (oInv_out (nInv_out hw).1.1).2.2.1.q0
    omega
  · have hw := (by assumption : nInv l st (v.x.i : Int) ⟨s, some 0⟩)
    obtain ⟨f1, f2, f3, f4⟩ := g_fit (by decide) hw
    have hz : ZOK s.q 0 s.h.q0 := (oInv_out (nInv_out hw).1.1).2.2.1.q0
    have h9 := hz.n
    omega
  · have hw := (by assumption : nInv l st (v.x.i : Int) ⟨s, some 0⟩)
    obtain ⟨f1, f2, f3, f4⟩ := g_fit (by decide) hw
    have hz : ZOK s.q 0 s.h.q0 := (oInv_out (nInv_out hw).1.1).2.2.1.q0
    have h9 := hz.n
    omega
  · have hw := (by assumption : nInv l st (v.x.i : Int) ⟨s, some 0⟩)
    obtain ⟨f1, f2, f3, f4⟩ := g_fit (by decide) hw
    have hz : ZOK s.q 0 s.h.q0 := (oInv_out (nInv_out hw).1.1).2.2.1.q0
    exact absurd (hz.at_ 0 f1) (by assumption)
  · have hw := (by assumption : nInv l st (v.x.i : Int) ⟨s, some 0⟩)
    obtain ⟨f1, f2, f3, f4⟩ := g_fit (by decide) hw
    have hz : ZOK s.q 0 s.h.q0 := (oInv_out (nInv_out hw).1.1).2.2.1.q0
    have h9 := (by assumption : leftV l s.now 0 < IntKind.i64.wrap (8 * s.q.sz 0 0))
    rw [w64' (by omega) (by omega)] at h9
    have f2 : 8 * s.q.sz 0 0 ≤ leftV l s.now 0 := f2
    exact absurd f2 (by omega)
  · have hw := (by assumption : nInv l st (v.x.i : Int) ⟨s, some 0⟩)
    have f1 := (g_fit (by decide) hw).1
    have hz : ZOK s.q 0 s.h.q0 := (oInv_out (nInv_out hw).1.1).2.2.1.q0
    have hz1 := hz.n
    have hu := (nInv_out (by assumption : nInv l st (x.i : Int) v)).2.2
    have hi : s.i < st.len := (nInv_out hw).1.2.1
    have hn : (s.i : Int) = (x.i : Int) := (nInv_out hw).2.2.trans hu
    (conv => whnf)
    (conv => whnf); refine enter_mk (la := laO l st) ⟨s.y, popL s.q (some 0), s.now, s.i + 1, ⟨⟨_, _⟩, s.h.q1, s.h.q2, s.h.q3, s.h.q4, s.h.q5, s.h.q6, s.h.q7⟩⟩ ?_ (by (repeat' (first | ((conv => whnf); first | refine ⟨?_, ?_⟩ | exact trivial | fail) | (dsimp only; done) | ((try dsimp only); first | with_reducible exact rfl | exact Nat.le_refl _ | with_reducible exact (fun _ _ => rfl)))); all_goals ((first | rfl | exact fun _ _ => rfl | exact cnt_n hw | exact mu_i hi hn | exact cutz_le (by omega))))
    exact o_pop (by decide) hw (fun c hsz => ⟨zok_pat f1 c.q0 rfl (fun r => rfl), zok_pne (by decide) c.q1, zok_pne (by decide) c.q2, zok_pne (by decide) c.q3, zok_pne (by decide) c.q4, zok_pne (by decide) c.q5, zok_pne (by decide) c.q6, zok_pne (by decide) c.q7, hsz⟩)
  · have hw := (by assumption : nInv l st (v.x.i : Int) ⟨s, some 1⟩)
    obtain ⟨f1, f2, f3, f4⟩ := g_fit (by decide) hw
    have hz : ZOK s.q 1 s.h.q1 := (oInv_out (nInv_out hw).1.1).2.2.1.q1
    omega
  · have hw := (by assumption : nInv l st (v.x.i : Int) ⟨s, some 1⟩)
    obtain ⟨f1, f2, f3, f4⟩ := g_fit (by decide) hw
    have hz : ZOK s.q 1 s.h.q1 := (oInv_out (nInv_out hw).1.1).2.2.1.q1
    have h9 := hz.n
    omega
  · have hw := (by assumption : nInv l st (v.x.i : Int) ⟨s, some 1⟩)
    obtain ⟨f1, f2, f3, f4⟩ := g_fit (by decide) hw
    have hz : ZOK s.q 1 s.h.q1 := (oInv_out (nInv_out hw).1.1).2.2.1.q1
    have h9 := hz.n
    omega
  · have hw := (by assumption : nInv l st (v.x.i : Int) ⟨s, some 1⟩)
    obtain ⟨f1, f2, f3, f4⟩ := g_fit (by decide) hw
    have hz : ZOK s.q 1 s.h.q1 := (oInv_out (nInv_out hw).1.1).2.2.1.q1
    exact absurd (hz.at_ 0 f1) (by assumption)
  · have hw := (by assumption : nInv l st (v.x.i : Int) ⟨s, some 1⟩)
    obtain ⟨f1, f2, f3, f4⟩ := g_fit (by decide) hw
    have hz : ZOK s.q 1 s.h.q1 := (oInv_out (nInv_out hw).1.1).2.2.1.q1
    have h9 := (by assumption : leftV l s.now 1 < IntKind.i64.wrap (8 * s.q.sz 1 0))
    rw [w64' (by omega) (by omega)] at h9
    have f2 : 8 * s.q.sz 1 0 ≤ leftV l s.now 1 := f2
    exact absurd f2 (by omega)
  · have hw := (by assumption : nInv l st (v.x.i : Int) ⟨s, some 1⟩)
    have f1 := (g_fit (by decide) hw).1
    have hz : ZOK s.q 1 s.h.q1 := (oInv_out (nInv_out hw).1.1).2.2.1.q1
    have hz1 := hz.n
    have hu := (nInv_out (by assumption : nInv l st (x.i : Int) v)).2.2
    have hi : s.i < st.len := (nInv_out hw).1.2.1
    have hn : (s.i : Int) = (x.i : Int) := (nInv_out hw).2.2.trans hu
    (conv => whnf)
    (conv => whnf); refine enter_mk (la := laO l st) ⟨s.y, popL s.q (some 1), s.now, s.i + 1, ⟨s.h.q0, ⟨_, _⟩, s.h.q2, s.h.q3, s.h.q4, s.h.q5, s.h.q6, s.h.q7⟩⟩ ?_ (by (repeat' (first | ((conv => whnf); first | refine ⟨?_, ?_⟩ | exact trivial | fail) | (dsimp only; done) | ((try dsimp only); first | with_reducible exact rfl | exact Nat.le_refl _ | with_reducible exact (fun _ _ => rfl)))); all_goals ((first | rfl | exact fun _ _ => rfl | exact cnt_n hw | exact mu_i hi hn | exact cutz_le (by omega))))
    exact o_pop (by decide) hw (fun c hsz => ⟨zok_pne (by decide) c.q0, zok_pat f1 c.q1 rfl (fun r => rfl), zok_pne (by decide) c.q2, zok_pne (by decide) c.q3, zok_pne (by decide) c.q4, zok_pne (by decide) c.q5, zok_pne (by decide) c.q6, zok_pne (by decide) c.q7, hsz⟩)
  · have hw := (by assumption : nInv l st (v.x.i : Int) ⟨s, some 2⟩)
    obtain ⟨f1, f2, f3, f4⟩ := g_fit (by decide) hw
    have hz : ZOK s.q 2 s.h.q2 := (oInv_out (nInv_out hw).1.1).2.2.1.q2
    omega
  · have hw := (by assumption : nInv l st (v.x.i : Int) ⟨s, some 2⟩)
    obtain ⟨f1, f2, f3, f4⟩ := g_fit (by decide) hw
    have hz : ZOK s.q 2 s.h.q2 := (oInv_out (nInv_out hw).1.1).2.2.1.q2
    have h9 := hz.n
    omega
  · have hw := (by assumption : nInv l st (v.x.i : Int) ⟨s, some 2⟩)
    obtain ⟨f1, f2, f3, f4⟩ := g_fit (by decide) hw
    have hz : ZOK s.q 2 s.h.q2 := (oInv_out (nInv_out hw).1.1).2.2.1.q2
    have h9 := hz.n
    omega
  · have hw := (by assumption : nInv l st (v.x.i : Int) ⟨s, some 2⟩)
    obtain ⟨f1, f2, f3, f4⟩ := g_fit (by decide) hw
    have hz : ZOK s.q 2 s.h.q2 := (oInv_out (nInv_out hw).1.1).2.2.1.q2
    exact absurd (hz.at_ 0 f1) (by assumption)
  · have hw := (by assumption : nInv l st (v.x.i : Int) ⟨s, some 2⟩)
    obtain ⟨f1, f2, f3, f4⟩ := g_fit (by decide) hw
    have hz : ZOK s.q 2 s.h.q2 := (oInv_out (nInv_out hw).1.1).2.2.1.q2
    have h9 := (by assumption : leftV l s.now 2 < IntKind.i64.wrap (8 * s.q.sz 2 0))
    rw [w64' (by omega) (by omega)] at h9
    have f2 : 8 * s.q.sz 2 0 ≤ leftV l s.now 2 := f2
    exact absurd f2 (by omega)
  · have hw := (by assumption : nInv l st (v.x.i : Int) ⟨s, some 2⟩)
    have f1 := (g_fit (by decide) hw).1
    have hz : ZOK s.q 2 s.h.q2 := (oInv_out (nInv_out hw).1.1).2.2.1.q2
    have hz1 := hz.n
    have hu := (nInv_out (by assumption : nInv l st (x.i : Int) v)).2.2
    have hi : s.i < st.len := (nInv_out hw).1.2.1
    have hn : (s.i : Int) = (x.i : Int) := (nInv_out hw).2.2.trans hu
    (conv => whnf)
    (conv => whnf); refine enter_mk (la := laO l st) ⟨s.y, popL s.q (some 2), s.now, s.i + 1, ⟨s.h.q0, s.h.q1, ⟨_, _⟩, s.h.q3, s.h.q4, s.h.q5, s.h.q6, s.h.q7⟩⟩ ?_ (by (repeat' (first | ((conv => whnf); first | refine ⟨?_, ?_⟩ | exact trivial | fail) | (dsimp only; done) | ((try dsimp only); first | with_reducible exact rfl | exact Nat.le_refl _ | with_reducible exact (fun _ _ => rfl)))); all_goals ((first | rfl | exact fun _ _ => rfl | exact cnt_n hw | exact mu_i hi hn | exact cutz_le (by omega))))
    exact o_pop (by decide) hw (fun c hsz => ⟨zok_pne (by decide) c.q0, zok_pne (by decide) c.q1, zok_pat f1 c.q2 rfl (fun r => rfl), zok_pne (by decide) c.q3, zok_pne (by decide) c.q4, zok_pne (by decide) c.q5, zok_pne (by decide) c.q6, zok_pne (by decide) c.q7, hsz⟩)
  · have hw := (by assumption : nInv l st (v.x.i : Int) ⟨s, some 3⟩)
    obtain ⟨f1, f2, f3, f4⟩ := g_fit (by decide) hw
    have hz : ZOK s.q 3 s.h.q3 := (oInv_out (nInv_out hw).1.1).2.2.1.q3
    omega
  · have hw := (by assumption : nInv l st (v.x.i : Int) ⟨s, some 3⟩)
    obtain ⟨f1, f2, f3, f4⟩ := g_fit (by decide) hw
    have hz : ZOK s.q 3 s.h.q3 := (oInv_out (nInv_out hw).1.1).2.2.1.q3
    have h9 := hz.n
    omega
  · have hw := (by assumption : nInv l st (v.x.i : Int) ⟨s, some 3⟩)
    obtain ⟨f1, f2, f3, f4⟩ := g_fit (by decide) hw
    have hz : ZOK s.q 3 s.h.q3 := (oInv_out (nInv_out hw).1.1).2.2.1.q3
    have h9 := hz.n
    omega
  · have hw := (by assumption : nInv l st (v.x.i : Int) ⟨s, some 3⟩)
    obtain ⟨f1, f2, f3, f4⟩ := g_fit (by decide) hw
    have hz : ZOK s.q 3 s.h.q3 := (oInv_out (nInv_out hw).1.1).2.2.1.q3
    exact absurd (hz.at_ 0 f1) (by assumption)
  · have hw := (by assumption : nInv l st (v.x.i : Int) ⟨s, some 3⟩)
    obtain ⟨f1, f2, f3, f4⟩ := g_fit (by decide) hw
    have hz : ZOK s.q 3 s.h.q3 := (oInv_out (nInv_out hw).1.1).2.2.1.q3
    have h9 := (by assumption : leftV l s.now 3 < IntKind.i64.wrap (8 * s.q.sz 3 0))
    rw [w64' (by omega) (by omega)] at h9
    have f2 : 8 * s.q.sz 3 0 ≤ leftV l s.now 3 := f2
    exact absurd f2 (by omega)
  · have hw := (by assumption : nInv l st (v.x.i : Int) ⟨s, some 3⟩)
    have f1 := (g_fit (by decide) hw).1
    have hz : ZOK s.q 3 s.h.q3 := (oInv_out (nInv_out hw).1.1).2.2.1.q3
    have hz1 := hz.n
    have hu := (nInv_out (by assumption : nInv l st (x.i : Int) v)).2.2
    have hi : s.i < st.len := (nInv_out hw).1.2.1
    have hn : (s.i : Int) = (x.i : Int) := (nInv_out hw).2.2.trans hu
    (conv => whnf)
    (conv => whnf); refine enter_mk (la := laO l st) ⟨s.y, popL s.q (some 3), s.now, s.i + 1, ⟨s.h.q0, s.h.q1, s.h.q2, ⟨_, _⟩, s.h.q4, s.h.q5, s.h.q6, s.h.q7⟩⟩ ?_ (by (repeat' (first | ((conv => whnf); first | refine ⟨?_, ?_⟩ | exact trivial | fail) | (dsimp only; done) | ((try dsimp only); first | with_reducible exact rfl | exact Nat.le_refl _ | with_reducible exact (fun _ _ => rfl)))); all_goals ((first | rfl | exact fun _ _ => rfl | exact cnt_n hw | exact mu_i hi hn | exact cutz_le (by omega))))
    exact o_pop (by decide) hw (fun c hsz => ⟨zok_pne (by decide) c.q0, zok_pne (by decide) c.q1, zok_pne (by decide) c.q2, zok_pat f1 c.q3 rfl (fun r => rfl), zok_pne (by decide) c.q4, zok_pne (by decide) c.q5, zok_pne (by decide) c.q6, zok_pne (by decide) c.q7, hsz⟩)
  · have hw := (by assumption : nInv l st (v.x.i : Int) ⟨s, some 4⟩)
    obtain ⟨f1, f2, f3, f4⟩ := g_fit (by decide) hw
    have hz : ZOK s.q 4 s.h.q4 := (oInv_out (nInv_out hw).1.1).2.2.1.q4
    omega
  · have hw := (by assumption : nInv l st (v.x.i : Int) ⟨s, some 4⟩)
    obtain ⟨f1, f2, f3, f4⟩ := g_fit (by decide) hw
    have hz : ZOK s.q 4 s.h.q4 := (oInv_out (nInv_out hw).1.1).2.2.1.q4
    have h9 := hz.n
    omega
  · have hw := (by assumption : nInv l st (v.x.i : Int) ⟨s, some 4⟩)
    obtain ⟨f1, f2, f3, f4⟩ := g_fit (by decide) hw
    have hz : ZOK s.q 4 s.h.q4 := (oInv_out (nInv_out hw).1.1).2.2.1.q4
    have h9 := hz.n
    omega
  · have hw := (by assumption : nInv l st (v.x.i : Int) ⟨s, some 4⟩)
    obtain ⟨f1, f2, f3, f4⟩ := g_fit (by decide) hw
    have hz : ZOK s.q 4 s.h.q4 := (oInv_out (nInv_out hw).1.1).2.2.1.q4
    exact absurd (hz.at_ 0 f1) (by assumption)
  · have hw := (by assumption : nInv l st (v.x.i : Int) ⟨s, some 4⟩)
    obtain ⟨f1, f2, f3, f4⟩ := g_fit (by decide) hw
    have hz : ZOK s.q 4 s.h.q4 := (oInv_out (nInv_out hw).1.1).2.2.1.q4
    have h9 := (by assumption : leftV l s.now 4 < IntKind.i64.wrap (8 * s.q.sz 4 0))
    rw [w64' (by omega) (by omega)] at h9
    have f2 : 8 * s.q.sz 4 0 ≤ leftV l s.now 4 := f2
    exact absurd f2 (by omega)
  · have hw := (by assumption : nInv l st (v.x.i : Int) ⟨s, some 4⟩)
    have f1 := (g_fit (by decide) hw).1
    have hz : ZOK s.q 4 s.h.q4 := (oInv_out (nInv_out hw).1.1).2.2.1.q4
    have hz1 := hz.n
    have hu := (nInv_out (by assumption : nInv l st (x.i : Int) v)).2.2
    have hi : s.i < st.len := (nInv_out hw).1.2.1
    have hn : (s.i : Int) = (x.i : Int) := (nInv_out hw).2.2.trans hu
    (conv => whnf)
    (conv => whnf); refine enter_mk (la := laO l st) ⟨s.y, popL s.q (some 4), s.now, s.i + 1, ⟨s.h.q0, s.h.q1, s.h.q2, s.h.q3, ⟨_, _⟩, s.h.q5, s.h.q6, s.h.q7⟩⟩ ?_ (by (repeat' (first | ((conv => whnf); first | refine ⟨?_, ?_⟩ | exact trivial | fail) | (dsimp only; done) | ((try dsimp only); first | with_reducible exact rfl | exact Nat.le_refl _ | with_reducible exact (fun _ _ => rfl)))); all_goals ((first | rfl | exact fun _ _ => rfl | exact cnt_n hw | exact mu_i hi hn | exact cutz_le (by omega))))
    exact o_pop (by decide) hw (fun c hsz => ⟨zok_pne (by decide) c.q0, zok_pne (by decide) c.q1, zok_pne (by decide) c.q2, zok_pne (by decide) c.q3, zok_pat f1 c.q4 rfl (fun r => rfl), zok_pne (by decide) c.q5, zok_pne (by decide) c.q6, zok_pne (by decide) c.q7, hsz⟩)
  · have hw := (by assumption : nInv l st (v.x.i : Int) ⟨s, some 5⟩)
    obtain ⟨f1, f2, f3, f4⟩ := g_fit (by decide) hw
    have hz : ZOK s.q 5 s.h.q5 := (oInv_out (nInv_out hw).1.1).2.2.1.q5
    omega
  · have hw := (by assumption : nInv l st (v.x.i : Int) ⟨s, some 5⟩)
    obtain ⟨f1, f2, f3, f4⟩ := g_fit (by decide) hw
    have hz : ZOK s.q 5 s.h.q5 := (oInv_out (nInv_out hw).1.1).2.2.1.q5
    have h9 := hz.n
    omega
  · have hw := (by assumption : nInv l st (v.x.i : Int) ⟨s, some 5⟩)
    obtain ⟨f1, f2, f3, f4⟩ := g_fit (by decide) hw
    have hz : ZOK s.q 5 s.h.q5 := (oInv_out (nInv_out hw).1.1).2.2.1.q5
    have h9 := hz.n
    omega
  · have hw := (by assumption : nInv l st (v.x.i : Int) ⟨s, some 5⟩)
    obtain ⟨f1, f2, f3, f4⟩ := g_fit (by decide) hw
    have hz : ZOK s.q 5 s.h.q5 := (oInv_out (nInv_out hw).1.1).2.2.1.q5
    exact absurd (hz.at_ 0 f1) (by assumption)
  · have hw := (by assumption : nInv l st (v.x.i : Int) ⟨s, some 5⟩)
    obtain ⟨f1, f2, f3, f4⟩ := g_fit (by decide) hw
    have hz : ZOK s.q 5 s.h.q5 := (oInv_out (nInv_out hw).1.1).2.2.1.q5
    have h9 := (by assumption : leftV l s.now 5 < IntKind.i64.wrap (8 * s.q.sz 5 0))
    rw [w64' (by omega) (by omega)] at h9
    have f2 : 8 * s.q.sz 5 0 ≤ leftV l s.now 5 := f2
    exact absurd f2 (by omega)
  · have hw := (by assumption : nInv l st (v.x.i : Int) ⟨s, some 5⟩)
    have f1 := (g_fit (by decide) hw).1
    have hz : ZOK s.q 5 s.h.q5 := (oInv_out (nInv_out hw).1.1).2.2.1.q5
    have hz1 := hz.n
    have hu := (nInv_out (by assumption : nInv l st (x.i : Int) v)).2.2
    have hi : s.i < st.len := (nInv_out hw).1.2.1
    have hn : (s.i : Int) = (x.i : Int) := (nInv_out hw).2.2.trans hu
    (conv => whnf)
    (conv => whnf); refine enter_mk (la := laO l st) ⟨s.y, popL s.q (some 5), s.now, s.i + 1, ⟨s.h.q0, s.h.q1, s.h.q2, s.h.q3, s.h.q4, ⟨_, _⟩, s.h.q6, s.h.q7⟩⟩ ?_ (by (repeat' (first | ((conv => whnf); first | refine ⟨?_, ?_⟩ | exact trivial | fail) | (dsimp only; done) | ((try dsimp only); first | with_reducible exact rfl | exact Nat.le_refl _ | with_reducible exact (fun _ _ => rfl)))); all_goals ((first | rfl | exact fun _ _ => rfl | exact cnt_n hw | exact mu_i hi hn | exact cutz_le (by omega))))
    exact o_pop (by decide) hw (fun c hsz => ⟨zok_pne (by decide) c.q0, zok_pne (by decide) c.q1, zok_pne (by decide) c.q2, zok_pne (by decide) c.q3, zok_pne (by decide) c.q4, zok_pat f1 c.q5 rfl (fun r => rfl), zok_pne (by decide) c.q6, zok_pne (by decide) c.q7, hsz⟩)
  · have hw := (by assumption : nInv l st (v.x.i : Int) ⟨s, some 6⟩)
    obtain ⟨f1, f2, f3, f4⟩ := g_fit (by decide) hw
    have hz : ZOK s.q 6 s.h.q6 := (oInv_out (nInv_out hw).1.1).2.2.1.q6
    omega
  · have hw := (by assumption : nInv l st (v.x.i : Int) ⟨s, some 6⟩)
    obtain ⟨f1, f2, f3, f4⟩ := g_fit (by decide) hw
    have hz : ZOK s.q 6 s.h.q6 := (oInv_out (nInv_out hw).1.1).2.2.1.q6
    have h9 := hz.n
    omega
  · have hw := (by assumption : nInv l st (v.x.i : Int) ⟨s, some 6⟩)
    obtain ⟨f1, f2, f3, f4⟩ := g_fit (by decide) hw
    have hz : ZOK s.q 6 s.h.q6 := (oInv_out (nInv_out hw).1.1).2.2.1.q6
    have h9 := hz.n
    omega
  · have hw := (by assumption : nInv l st (v.x.i : Int) ⟨s, some 6⟩)
    obtain ⟨f1, f2, f3, f4⟩ := g_fit (by decide) hw
    have hz : ZOK s.q 6 s.h.q6 := (oInv_out (nInv_out hw).1.1).2.2.1.q6
    exact absurd (hz.at_ 0 f1) (by assumption)
  · have hw := (by assumption : nInv l st (v.x.i : Int) ⟨s, some 6⟩)
    obtain ⟨f1, f2, f3, f4⟩ := g_fit (by decide) hw
    have hz : ZOK s.q 6 s.h.q6 := (oInv_out (nInv_out hw).1.1).2.2.1.q6
    have h9 := (by assumption : leftV l s.now 6 < IntKind.i64.wrap (8 * s.q.sz 6 0))
    rw [w64' (by omega) (by omega)] at h9
    have f2 : 8 * s.q.sz 6 0 ≤ leftV l s.now 6 := f2
    exact absurd f2 (by omega)
  · have hw := (by assumption : nInv l st (v.x.i : Int) ⟨s, some 6⟩)
    have f1 := (g_fit (by decide) hw).1
    have hz : ZOK s.q 6 s.h.q6 := (oInv_out (nInv_out hw).1.1).2.2.1.q6
    have hz1 := hz.n
    have hu := (nInv_out (by assumption : nInv l st (x.i : Int) v)).2.2
    have hi : s.i < st.len := (nInv_out hw).1.2.1
    have hn : (s.i : Int) = (x.i : Int) := (nInv_out hw).2.2.trans hu
    (conv => whnf)
    (conv => whnf); refine enter_mk (la := laO l st) ⟨s.y, popL s.q (some 6), s.now, s.i + 1, ⟨s.h.q0, s.h.q1, s.h.q2, s.h.q3, s.h.q4, s.h.q5, ⟨_, _⟩, s.h.q7⟩⟩ ?_ (by (repeat' (first | ((conv => whnf); first | refine ⟨?_, ?_⟩ | exact trivial | fail) | (dsimp only; done) | ((try dsimp only); first | with_reducible exact rfl | exact Nat.le_refl _ | with_reducible exact (fun _ _ => rfl)))); all_goals ((first | rfl | exact fun _ _ => rfl | exact cnt_n hw | exact mu_i hi hn | exact cutz_le (by omega))))
    exact o_pop (by decide) hw (fun c hsz => ⟨zok_pne (by decide) c.q0, zok_pne (by decide) c.q1, zok_pne (by decide) c.q2, zok_pne (by decide) c.q3, zok_pne (by decide) c.q4, zok_pne (by decide) c.q5, zok_pat f1 c.q6 rfl (fun r => rfl), zok_pne (by decide) c.q7, hsz⟩)
  · have hw := (by assumption : nInv l st (v.x.i : Int) ⟨s, some 7⟩)
    obtain ⟨f1, f2, f3, f4⟩ := g_fit (by decide) hw
    have hz : ZOK s.q 7 s.h.q7 := (oInv_out (nInv_out hw).1.1).2.2.1.q7
    omega
  · have hw := (by assumption : nInv l st (v.x.i : Int) ⟨s, some 7⟩)
    obtain ⟨f1, f2, f3, f4⟩ := g_fit (by decide) hw
    have hz : ZOK s.q 7 s.h.q7 := (oInv_out (nInv_out hw).1.1).2.2.1.q7
    have h9 := hz.n
    omega
  · have hw := (by assumption : nInv l st (v.x.i : Int) ⟨s, some 7⟩)
    obtain ⟨f1, f2, f3, f4⟩ := g_fit (by decide) hw
    have hz : ZOK s.q 7 s.h.q7 := (oInv_out (nInv_out hw).1.1).2.2.1.q7
    have h9 := hz.n
    omega
  · have hw := (by assumption : nInv l st (v.x.i : Int) ⟨s, some 7⟩)
    obtain ⟨f1, f2, f3, f4⟩ := g_fit (by decide) hw
    have hz : ZOK s.q 7 s.h.q7 := (oInv_out (nInv_out hw).1.1).2.2.1.q7
    exact absurd (hz.at_ 0 f1) (by assumption)
  · have hw := (by assumption : nInv l st (v.x.i : Int) ⟨s, some 7⟩)
    obtain ⟨f1, f2, f3, f4⟩ := g_fit (by decide) hw
    have hz : ZOK s.q 7 s.h.q7 := (oInv_out (nInv_out hw).1.1).2.2.1.q7
    have h9 := (by assumption : leftV l s.now 7 < IntKind.i64.wrap (8 * s.q.sz 7 0))
    rw [w64' (by omega) (by omega)] at h9
    have f2 : 8 * s.q.sz 7 0 ≤ leftV l s.now 7 := f2
    exact absurd f2 (by omega)
  · have hw := (by assumption : nInv l st (v.x.i : Int) ⟨s, some 7⟩)
    have f1 := (g_fit (by decide) hw).1
    have hz : ZOK s.q 7 s.h.q7 := (oInv_out (nInv_out hw).1.1).2.2.1.q7
    have hz1 := hz.n
    have hu := (nInv_out (by assumption : nInv l st (x.i : Int) v)).2.2
    have hi : s.i < st.len := (nInv_out hw).1.2.1
    have hn : (s.i : Int) = (x.i : Int) := (nInv_out hw).2.2.trans hu
    (conv => whnf)
    (conv => whnf); refine enter_mk (la := laO l st) ⟨s.y, popL s.q (some 7), s.now, s.i + 1, ⟨s.h.q0, s.h.q1, s.h.q2, s.h.q3, s.h.q4, s.h.q5, s.h.q6, ⟨_, _⟩⟩⟩ ?_ (by (repeat' (first | ((conv => whnf); first | refine ⟨?_, ?_⟩ | exact trivial | fail) | (dsimp only; done) | ((try dsimp only); first | with_reducible exact rfl | exact Nat.le_refl _ | with_reducible exact (fun _ _ => rfl)))); all_goals ((first | rfl | exact fun _ _ => rfl | exact cnt_n hw | exact mu_i hi hn | exact cutz_le (by omega))))
    exact o_pop (by decide) hw (fun c hsz => ⟨zok_pne (by decide) c.q0, zok_pne (by decide) c.q1, zok_pne (by decide) c.q2, zok_pne (by decide) c.q3, zok_pne (by decide) c.q4, zok_pne (by decide) c.q5, zok_pne (by decide) c.q6, zok_pat f1 c.q7 rfl (fun r => rfl), hsz⟩)

end Go.Proofs.Ytaadejgoafdbcaa
