/-
  Contracts of functions, and plain facts about them, that a claim of this seat uses.
-/
import Derived.Test.YtnkmfkongmijfaaSx
import Derived.Test.YtnkmfkongmijfaaFdbG
import Derived.Test.YtnkmfkongmijfaaProg
namespace Go.Proofs.Ytnkmfkongmijfaa
open Go.Sx
set_option linter.unusedVariables false
set_option linter.unusedSimpArgs false
set_option maxRecDepth 100000

/-! fdb: Age, Flush. -/
def oldB (since : Int) (r : MRow) : Bool := !decide (cellI (some r.v) 1 = 1) && decide (cellI (some r.v) 2 < since)
def agL (t : Ft) (since : Int) : List MRow := t.al.filter fun r => !oldB since r
def agT (t : Ft) (since : Int) : Ft := { t with al := agL t since }
theorem key_b {k : List Int} (h : KeyW AT.ks k) : KeyW AT.ks [k.getD 0 0, k.getD 1 0, k.getD 2 0, k.getD 3 0, k.getD 4 0, k.getD 5 0, k.getD 6 0] := by rw [key_7 h]; exact h
structure AX where
  n : Nat
  seen : List MRow
noncomputable abbrev laAg (t : Ft) (since : Int) (h : FH) : LA where
  ι := AX
  inv := fun x => x.n + (sweep t.al (oldB since) x.seen).length = t.al.length
  T := fun x => ⟨37, [(0, .one (.a (.ptr 0 0))), (1, int_ .i64 since), (5, int_ .i64 x.n), (14, .one (.a (.ptr 4 0)))], [some ⟨true, .flat (ftCells t h)⟩, vlR h.mv t.cv t.vl, poR h, alR h.ma t.ca (sweep t.al (oldB since) x.seen), some ⟨true, .obj 0 { ns := [h.ma, t.ca, t.ca], mp := [x.seen] } iterI⟩]⟩
  μ := fun x => (unmet t.al x.seen).length
  ren := fun S => [0, 1, 2, 3, S.ix 14]
noncomputable def cxAg (t : Ft) (since : Int) (h : FH) : Cx Try.prog := { ps := [vidS, grpS], es := [], is := [], n0 := 1, loops := fun i => match i with | 5 => some (.inv (laAg t since h)) | _ => none, cuts := fun _ => none, xr := xrs, xa := xas }
section
attribute [local irreducible] anyO enter
set_option maxHeartbeats 8000000 in
theorem ag_runs (t : Ft) (since : Int) (h : FH) (hi : FtInv t h) : Runs (cxAg t since h) Try.f16 (.one (.a (.ptr 0 0)) :: [int_ .i64 since]) (ftMem t h) fun v m => ghosted (fun _ _ => []) v m fun v m => anyO ftK (ftRen m) v m [.one (int_ .i64 ((t.al.length : Int) - (agL t since).length)) (ftP (agT t since))] := by
  repeat' (first | with_reducible exact trivial | with_reducible exact rfl | with_reducible exact Nat.le_refl _ | with_reducible exact (fun _ _ => rfl) | ((conv => whnf); first | (refine fun (x : AX) => ?_) | (refine fun (y : MRow) => ?_) | (exact fun h => absurd h (by decide)) | (intro h9; (have h8 := of_decide_eq_true (p := type_of% h9) (by decide)); clear h8 h9) | (refine fun _ => ?_) | refine ⟨?_, ?_⟩ | exact trivial | exact Nat.le_refl _ | exact lex_q (by kernel_rfl) | exact lex_t (by kernel_rfl) | exact lex_h (by kernel_rfl) | fail))
  all_goals (try dsimp only at *)
  · (conv => whnf); refine enter_mk (la := laAg t since h) ⟨0, []⟩ ?_ (by (repeat' (first | ((conv => whnf); first | refine ⟨?_, ?_⟩ | exact trivial | fail) | (dsimp only; done) | ((try dsimp only); first | with_reducible exact rfl | exact Nat.le_refl _ | with_reducible exact (fun _ _ => rfl)))); all_goals ((first | rfl | (rw [sw_0]) | decide)))
    show 0 + (sweep t.al (oldB since) []).length = t.al.length
    rw [sw_0, Nat.zero_add]
  all_goals (try exact hi.al.lt _ (sw_sub (by assumption)))
  all_goals (try (have hy := (by assumption : y ∈ sweep t.al (oldB since) x.seen ∧ ∀ (s : MRow), s ∈ x.seen → s.b ≠ y.b); have hk := hi.al.len y (sw_sub hy.1)))
  all_goals (try first | exact hy.1 | exact (key_b hk).1.1 | exact (key_b hk).1.2 | exact (key_b hk).2.1.1 | exact (key_b hk).2.1.2 | exact (key_b hk).2.2.1.1 | exact (key_b hk).2.2.1.2 | exact (key_b hk).2.2.2.1.1 | exact (key_b hk).2.2.2.1.2 | exact (key_b hk).2.2.2.2.1.1 | exact (key_b hk).2.2.2.2.1.2 | exact (key_b hk).2.2.2.2.2.1.1 | exact (key_b hk).2.2.2.2.2.1.2 | exact (key_b hk).2.2.2.2.2.2.1.1 | exact (key_b hk).2.2.2.2.2.2.1.2 | fail)
  · have he : sweep t.al (oldB since) x.seen = agL t since := sw_end (by assumption)
    have hn : (t.al.length : Int) - (agL t since).length = (x.n : Int) := by
      have hx := (by assumption : x.n + (sweep t.al (oldB since) x.seen).length = t.al.length)
      rw [he] at hx; omega
    rw [hn]
    (conv => whnf); refine o_one ⟨_, _, _, _, _, _, _, _, _, _, _, _⟩ (by (repeat' (first | ((conv => whnf); first | refine ⟨?_, ?_⟩ | exact trivial | fail) | (dsimp only; done) | ((try dsimp only); first | with_reducible exact rfl | exact Nat.le_refl _ | with_reducible exact (fun _ _ => rfl)))); all_goals ((first | rfl | exact he.symm | exact he))) ?_; exact ⟨hi.n, hi.room, hi.cap, hi.at_, fl_ok hi.al _, Int.le_trans (Int.ofNat_le.2 (List.length_filter_le _ _)) hi.le, hi.pv⟩
  all_goals (have hx := (by assumption : x.n + (sweep t.al (oldB since) x.seen).length = t.al.length); have hroom := hi.room; have hle := hi.le)
  · have hd : oldB since y = true := by
      unfold oldB
      rw [show decide (cellI (some y.v) 2 < since) = true from decide_eq_true (by assumption), Bool.and_true]
      assumption
    have hs := sw_del hi.al hy.1 hd
    have h1 := del_one (sw_ok hi.al (oldB since) x.seen) hy.1
    rw [hs] at h1
    (conv => whnf); refine enter_mk (la := laAg t since h) ⟨x.n + 1, y :: x.seen⟩ ?_ (by (repeat' (first | ((conv => whnf); first | refine ⟨?_, ?_⟩ | exact trivial | fail) | (dsimp only; done) | ((try dsimp only); first | with_reducible exact rfl | exact Nat.le_refl _ | with_reducible exact (fun _ _ => rfl)))); all_goals ((first | rfl | exact un_lt (sw_sub hy.1) hy.2 | (dsimp only; rw [w64' (by omega) (by omega)]; omega) | (rw [← hs]; exact congrArg (mpDel _) (key_7 hk)) | (rw [← hs]; exact (congrArg (mpDel _) (key_7 hk)).symm))))
    show x.n + 1 + (sweep t.al (oldB since) (y :: x.seen)).length = t.al.length
    omega
  · have hd : oldB since y = false := by
      unfold oldB
      rw [show decide (cellI (some y.v) 2 < since) = false from decide_eq_false (by assumption), Bool.and_false]
    have hs := sw_keep hi.al (seen := x.seen) (sw_sub hy.1) hd
    (conv => whnf); refine enter_mk (la := laAg t since h) ⟨x.n, y :: x.seen⟩ ?_ (by (repeat' (first | ((conv => whnf); first | refine ⟨?_, ?_⟩ | exact trivial | fail) | (dsimp only; done) | ((try dsimp only); first | with_reducible exact rfl | exact Nat.le_refl _ | with_reducible exact (fun _ _ => rfl)))); all_goals ((first | rfl | exact un_lt (sw_sub hy.1) hy.2 | exact hs | exact hs.symm)))
    show x.n + (sweep t.al (oldB since) (y :: x.seen)).length = t.al.length
    rw [hs]; exact hx
  · have hd : oldB since y = false := by
      unfold oldB
      rw [show (!decide (cellI (some y.v) 1 = 1)) = false by assumption, Bool.false_and]
    have hs := sw_keep hi.al (seen := x.seen) (sw_sub hy.1) hd
    (conv => whnf); refine enter_mk (la := laAg t since h) ⟨x.n, y :: x.seen⟩ ?_ (by (repeat' (first | ((conv => whnf); first | refine ⟨?_, ?_⟩ | exact trivial | fail) | (dsimp only; done) | ((try dsimp only); first | with_reducible exact rfl | exact Nat.le_refl _ | with_reducible exact (fun _ _ => rfl)))); all_goals ((first | rfl | exact un_lt (sw_sub hy.1) hy.2 | exact hs | exact hs.symm)))
    show x.n + (sweep t.al (oldB since) (y :: x.seen)).length = t.al.length
    rw [hs]; exact hx
end
noncomputable def agS : ESpec Try.prog := obN fn16 82 ftK (.s1 (.int .i64)) ftR ftP ftR_ok (fun _ => rfl) (fun t y h => cxAg t y h) (fun _ _ => True) (fun t y => [.one (int_ .i64 ((t.al.length : Int) - (agL t y).length)) (ftP (agT t y))]) (fun _ _ => []) (fun _ m => ftRen m) (fun _ _ _ => rfl) (fun t y _ h hi => ag_runs t y h hi)
/-! Flush -/
def hitB (a : Int) (r : MRow) : Bool := !decide (cellI (some r.v) 1 = 1) && decide (cellI (some r.v) 0 = bitI a)
def flL (t : Ft) (a : Int) : List MRow := t.al.filter fun r => !hitB a r
def flT (t : Ft) (a : Int) : Ft := if a < 0 ∨ (t.n : Int) ≤ a then t else { t with al := flL t a }
noncomputable abbrev laFl (t : Ft) (a : Int) (h : FH) : LA where
  ι := List MRow
  inv := fun _ => 0 ≤ a ∧ a < t.n
  T := fun x => ⟨45, [(0, .one (.a (.ptr 0 0))), (1, int_ .i64 a), (24, .one (.a (.ptr 4 0)))], [some ⟨true, .flat (ftCells t h)⟩, vlR h.mv t.cv t.vl, poR h, alR h.ma t.ca (sweep t.al (hitB a) x), some ⟨true, .obj 0 { ns := [h.ma, t.ca, t.ca], mp := [x] } iterI⟩]⟩
  μ := fun x => (unmet t.al x).length
  ren := fun S => [0, 1, 2, 3, S.ix 24]
noncomputable def cxFl (t : Ft) (a : Int) (h : FH) : Cx Try.prog := { ps := [vidS, grpS], es := [], is := [], n0 := 1, loops := fun i => match i with | 2 => some (.inv (laFl t a h)) | _ => none, cuts := fun _ => none, xr := xrs, xa := xas }
section
attribute [local irreducible] anyO enter
set_option maxHeartbeats 8000000 in
theorem fl_runs (t : Ft) (a : Int) (h : FH) (hi : FtInv t h) : Runs (cxFl t a h) Try.f14 (.one (.a (.ptr 0 0)) :: [int_ .i64 a]) (ftMem t h) fun v m => ghosted (fun _ _ => []) v m fun v m => anyO ftK (ftRen m) v m [.one (.tup []) (ftP (flT t a))] := by
  have hno : (a < 0 ∨ (t.n : Int) ≤ a) → flT t a = t := fun hh => if_pos hh
  have hyes : ¬ (a < 0 ∨ (t.n : Int) ≤ a) → flT t a = { t with al := flL t a } := fun hh => if_neg hh
  repeat' (first | with_reducible exact trivial | with_reducible exact rfl | with_reducible exact Nat.le_refl _ | with_reducible exact (fun _ _ => rfl) | ((conv => whnf); first | (refine fun (x : List MRow) => ?_) | (refine fun (y : MRow) => ?_) | (exact fun h => absurd h (by decide)) | (intro h9; (have h8 := of_decide_eq_true (p := type_of% h9) (by decide)); clear h8 h9) | (refine fun _ => ?_) | refine ⟨?_, ?_⟩ | exact trivial | exact Nat.le_refl _ | exact lex_q (by kernel_rfl) | exact lex_t (by kernel_rfl) | exact lex_h (by kernel_rfl) | fail))
  all_goals (try dsimp only at *)
  · rw [hno (.inl (by assumption))]
    (conv => whnf); refine o_one ⟨_, _, _, _, _, _, _, _, _, _, _, _⟩ (by (repeat' (first | ((conv => whnf); first | refine ⟨?_, ?_⟩ | exact trivial | fail) | (dsimp only; done) | ((try dsimp only); first | with_reducible exact rfl | exact Nat.le_refl _ | with_reducible exact (fun _ _ => rfl)))); all_goals ((first | rfl))) ?_; exact hi
  · rw [hno (.inr (by assumption))]
    (conv => whnf); refine o_one ⟨_, _, _, _, _, _, _, _, _, _, _, _⟩ (by (repeat' (first | ((conv => whnf); first | refine ⟨?_, ?_⟩ | exact trivial | fail) | (dsimp only; done) | ((try dsimp only); first | with_reducible exact rfl | exact Nat.le_refl _ | with_reducible exact (fun _ _ => rfl)))); all_goals ((first | rfl))) ?_; exact hi
  · (conv => whnf); refine enter_mk (la := laFl t a h) [] ?_ (by (repeat' (first | ((conv => whnf); first | refine ⟨?_, ?_⟩ | exact trivial | fail) | (dsimp only; done) | ((try dsimp only); first | with_reducible exact rfl | exact Nat.le_refl _ | with_reducible exact (fun _ _ => rfl)))); all_goals ((first | rfl | (rw [sw_0]) | decide)))
    exact ⟨by omega, by omega⟩
  all_goals (try exact hi.al.lt _ (sw_sub (by assumption)))
  all_goals (try omega)
  all_goals (try (have hy := (by assumption : y ∈ sweep t.al (hitB a) x ∧ ∀ (s : MRow), s ∈ x → s.b ≠ y.b); have hk := hi.al.len y (sw_sub hy.1)))
  all_goals (try first | exact hy.1 | exact (key_b hk).1.1 | exact (key_b hk).1.2 | exact (key_b hk).2.1.1 | exact (key_b hk).2.1.2 | exact (key_b hk).2.2.1.1 | exact (key_b hk).2.2.1.2 | exact (key_b hk).2.2.2.1.1 | exact (key_b hk).2.2.2.1.2 | exact (key_b hk).2.2.2.2.1.1 | exact (key_b hk).2.2.2.2.1.2 | exact (key_b hk).2.2.2.2.2.1.1 | exact (key_b hk).2.2.2.2.2.1.2 | exact (key_b hk).2.2.2.2.2.2.1.1 | exact (key_b hk).2.2.2.2.2.2.1.2 | fail)
  · have he : sweep t.al (hitB a) x = flL t a := sw_end (by assumption)
    rw [hyes (by omega)]
    (conv => whnf); refine o_one ⟨_, _, _, _, _, _, _, _, _, _, _, _⟩ (by (repeat' (first | ((conv => whnf); first | refine ⟨?_, ?_⟩ | exact trivial | fail) | (dsimp only; done) | ((try dsimp only); first | with_reducible exact rfl | exact Nat.le_refl _ | with_reducible exact (fun _ _ => rfl)))); all_goals ((first | rfl | exact he.symm | exact he))) ?_; exact ⟨hi.n, hi.room, hi.cap, hi.at_, fl_ok hi.al _, Int.le_trans (Int.ofNat_le.2 (List.length_filter_le _ _)) hi.le, hi.pv⟩
  · have hd : hitB a y = true := by
      unfold hitB
      rw [show decide (cellI (some y.v) 0 = bitI a) = true from decide_eq_true (by assumption), Bool.and_true]
      assumption
    have hs := sw_del hi.al hy.1 hd
    (conv => whnf); refine enter_mk (la := laFl t a h) (y :: x) ?_ (by (repeat' (first | ((conv => whnf); first | refine ⟨?_, ?_⟩ | exact trivial | fail) | (dsimp only; done) | ((try dsimp only); first | with_reducible exact rfl | exact Nat.le_refl _ | with_reducible exact (fun _ _ => rfl)))); all_goals ((first | rfl | exact un_lt (sw_sub hy.1) hy.2 | (rw [← hs]; exact congrArg (mpDel _) (key_7 hk)) | (rw [← hs]; exact (congrArg (mpDel _) (key_7 hk)).symm))))
    exact ⟨by omega, by omega⟩
  · have hd : hitB a y = false := by
      unfold hitB
      rw [show decide (cellI (some y.v) 0 = bitI a) = false from decide_eq_false (by assumption), Bool.and_false]
    have hs := sw_keep hi.al (seen := x) (sw_sub hy.1) hd
    (conv => whnf); refine enter_mk (la := laFl t a h) (y :: x) ?_ (by (repeat' (first | ((conv => whnf); first | refine ⟨?_, ?_⟩ | exact trivial | fail) | (dsimp only; done) | ((try dsimp only); first | with_reducible exact rfl | exact Nat.le_refl _ | with_reducible exact (fun _ _ => rfl)))); all_goals ((first | rfl | exact un_lt (sw_sub hy.1) hy.2 | exact hs | exact hs.symm)))
    exact ⟨by omega, by omega⟩
  · have hd : hitB a y = false := by
      unfold hitB
      rw [show (!decide (cellI (some y.v) 1 = 1)) = false by assumption, Bool.false_and]
    have hs := sw_keep hi.al (seen := x) (sw_sub hy.1) hd
    (conv => whnf); refine enter_mk (la := laFl t a h) (y :: x) ?_ (by (repeat' (first | ((conv => whnf); first | refine ⟨?_, ?_⟩ | exact trivial | fail) | (dsimp only; done) | ((try dsimp only); first | with_reducible exact rfl | exact Nat.le_refl _ | with_reducible exact (fun _ _ => rfl)))); all_goals ((first | rfl | exact un_lt (sw_sub hy.1) hy.2 | exact hs | exact hs.symm)))
    exact ⟨by omega, by omega⟩
end
noncomputable def flS : ESpec Try.prog := obN fn14 82 ftK (.s1 (.int .i64)) ftR ftP ftR_ok (fun _ => rfl) (fun t y h => cxFl t y h) (fun _ _ => True) (fun t y => [.one (.tup []) (ftP (flT t y))]) (fun _ _ => []) (fun _ m => ftRen m) (fun _ _ _ => rfl) (fun t y _ h hi => fl_runs t y h hi)

end Go.Proofs.Ytnkmfkongmijfaa
