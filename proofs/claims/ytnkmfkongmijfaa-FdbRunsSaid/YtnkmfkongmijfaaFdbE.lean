/-
  Contracts of functions, and plain facts about them, that a claim of this seat uses.
-/
import Derived.Test.YtnkmfkongmijfaaSx
import Derived.Test.YtnkmfkongmijfaaFdbD
import Derived.Test.YtnkmfkongmijfaaProg
namespace Go.Proofs.Ytnkmfkongmijfaa
open Go.Sx
set_option linter.unusedVariables false
set_option linter.unusedSimpArgs false
set_option maxRecDepth 100000

/-! fdb: New, the laws' head. -/
def nOK (n room : Int) : Prop := (1 ≤ n ∧ n ≤ 8) ∧ 0 ≤ room ∧ room ≤ 4096
theorem nOK_out {n room : Int} (h : nOK n room) : (1 ≤ n ∧ n ≤ 8) ∧ 0 ≤ room ∧ room ≤ 4096 := h
theorem nOK_mk {n room : Int} (h : (1 ≤ n ∧ n ≤ 8) ∧ 0 ≤ room ∧ room ≤ 4096) : nOK n room := h
def ft0 (n room : Int) : Ft := ⟨n.toNat, room, [], 0, [], 0, fun _ => 1, fun k _ => k⟩
def cellM (m : Mem) (o c : Nat) : Option SA := match (m[o]? : Option (Option Reg)) with | some (some ⟨_, .flat l⟩) => l[c]? | _ => none
def regM (m : Mem) (o c : Nat) : Nat := match cellM m o c with | some x => regOf x | none => 0
def numM (m : Mem) (i : Nat) : Nat := match (m[i]? : Option (Option Reg)) with | some (some ⟨_, .obj _ x _⟩) => x.ns.headD 0 | _ => 0
def hidM (m : Mem) (o : Nat) : FH := match cellM m o 3 with
  | some (.slc i _ _ _ cap) => (match (m[i]? : Option (Option Reg)) with
    | some (some ⟨_, .tab _ [.int _ v, .int _ q0, .int _ q1, .int _ q2, .int _ q3, .int _ q4, .int _ q5, .int _ q6, .int _ q7]⟩) => ⟨numM m (regM m o 2), numM m (regM m o 4), cap, v, q0, q1, q2, q3, q4, q5, q6, q7⟩
    | _ => ⟨0, 0, 0, fun _ => 0, fun _ => 0, fun _ => 0, fun _ => 0, fun _ => 0, fun _ => 0, fun _ => 0, fun _ => 0, fun _ => 0⟩)
  | _ => ⟨0, 0, 0, fun _ => 0, fun _ => 0, fun _ => 0, fun _ => 0, fun _ => 0, fun _ => 0, fun _ => 0, fun _ => 0, fun _ => 0⟩
noncomputable def newGs (y : Int × Int) (v : SV) (m : Mem) : List GC := match v with
  | .tup [.a (.ptr o _), _] => [.box [o, regM m o 2, regM m o 3, regM m o 4] 82 (ftP (ft0 y.1 y.2)) ftK (hidM m o)]
  | _ => []
def newRen (v : SV) : List Nat := match v with | .tup [.a (.ptr o _), _] => [o] | _ => []
noncomputable def newAlts (y : Int × Int) : List Alt := [.cond (nOK y.1 y.2) (.tup [.a (.ptr 0 0), .a (i_ 0)]) [some ⟨true, .obj 82 (ftP (ft0 y.1 y.2)) (boxI ftK)⟩], .cond (¬ nOK y.1 y.2) (.tup [.a (.v (.pointer none)), .a (i_ 1)]) []]
theorem alt_l {m0 : Mem} {ρ : List Nat} {v : SV} {m : Mem} {p : Prop} {v2 : SV} {m2 : Mem} {b : Alt} {l : List Alt} (hp : p) (h : altOne m0 ρ v m v2 m2) : anyAlt m0 ρ v m (.cond p v2 m2 :: b :: l) := .inl ⟨hp, h⟩
theorem alt_r {m0 : Mem} {ρ : List Nat} {v : SV} {m : Mem} {p : Prop} {v2 : SV} {m2 : Mem} {a : Alt} (hp : p) (h : altOne m0 ρ v m v2 m2) : anyAlt m0 ρ v m [a, .cond p v2 m2] := .inr ⟨hp, h⟩
def z9 : List Col := [.int .i64 fun _ => 0, .int .i64 fun _ => 0, .int .i64 fun _ => 0, .int .i64 fun _ => 0, .int .i64 fun _ => 0, .int .i64 fun _ => 0, .int .i64 fun _ => 0, .int .i64 fun _ => 0, .int .i64 fun _ => 0]
structure NX where
  i : Nat
  h : FH
def atNew (h : FH) (r : Nat) : Prop := h.v r = 1 ∧ h.q0 r = 0 ∧ h.q1 r = 1 ∧ h.q2 r = 2 ∧ h.q3 r = 3 ∧ h.q4 r = 4 ∧ h.q5 r = 5 ∧ h.q6 r = 6 ∧ h.q7 r = 7
noncomputable abbrev laNew (n room : Int) : LA where
  ι := NX
  inv := fun x => ((x.i : Int) ≤ n ∧ nOK n room) ∧ (x.i ≤ x.h.cap ∧ x.h.cap ≤ 9223372036854775807) ∧ ∀ r, r < x.i → atNew x.h r
  T := fun x => ⟨43, [(6, .one (.a (.ptr 0 0))), (27, int_ .i64 n), (28, int_ .i64 x.i)], [some ⟨true, .flat [i_ n, i_ room, .map 1, .slc 2 9 0 x.i x.h.cap, .map 3]⟩, vlR x.h.mv 0 [], poR x.h, alR x.h.ma 0 []]⟩
  μ := fun x => n.toNat - x.i
  ren := fun S => [S.ix 6, regM S.m (S.ix 6) 2, regM S.m (S.ix 6) 3, regM S.m (S.ix 6) 4]
  gs := fun S => match cellM S.m (S.ix 6) 3 with | some (.v _) => [.nil (S.ix 6) 3 9 z9] | _ => []
noncomputable def cxNew (n room : Int) : Cx Try.prog := { ps := [], es := [], is := [], n0 := 0, loops := fun i => match i with | 5 => some (.inv (laNew n room)) | _ => none, cuts := fun _ => none, xr := xrs, xa := xas }
theorem new_inv {n room : Int} {x : NX} (hn : nOK n room) (hx : (x.i : Int) = n) (h1 : x.i ≤ x.h.cap ∧ x.h.cap ≤ 9223372036854775807) (h2 : ∀ r, r < x.i → atNew x.h r) : FtInv (ft0 n room) x.h := by
  obtain ⟨h3, h4⟩ := hn
  have e : (ft0 n room).n = n.toNat := rfl
  exact ⟨by rw [e]; omega, h4, by rw [e]; omega, fun r hr => h2 r (by rw [e] at hr; omega), mpOK_nil _, h4.1, fun _ _ => (by show (1 : Int) ≤ 1 ∧ (1 : Int) ≤ 4094; decide)⟩
section
attribute [local irreducible] anyAlt enter nOK
set_option maxHeartbeats 8000000 in
theorem new_runs (y : Int × Int) : Runs (cxNew y.1 y.2) Try.f10 [int_ .i64 y.1, int_ .i64 y.2] [] fun v m => ghosted (newGs y) v m fun v m => anyAlt [] (newRen v) v m (newAlts y) := by
  obtain ⟨n, room⟩ := y
  repeat' (first | with_reducible exact trivial | with_reducible exact rfl | with_reducible exact Nat.le_refl _ | with_reducible exact (fun _ _ => rfl) | ((conv => whnf); first | (refine fun (x : NX) => ?_) | (exact fun h => absurd h (by decide)) | (intro h9; (have h8 := of_decide_eq_true (p := type_of% h9) (by decide)); clear h8 h9) | (refine fun _ => ?_) | refine ⟨?_, ?_⟩ | exact trivial | exact Nat.le_refl _ | exact lex_q (by kernel_rfl) | exact lex_t (by kernel_rfl) | exact lex_h (by kernel_rfl) | fail))
  all_goals (try dsimp only at *)
  · (conv => whnf); refine alt_r ?_ (by (repeat' (first | with_reducible exact rfl | exact Nat.le_refl _ | with_reducible exact (fun _ _ => rfl) | ((conv => whnf); first | refine ⟨?_, ?_⟩ | exact trivial | fail))); first | ((all_goals ((try dsimp only [laNew] at *); (all_goals (try simp (disch := omega) only [w64', wu64', tdiv_pos, tmod_pos, Int.toNat_natCast, Nat.zero_add] at *)); (all_goals ((try omega))))); done) | fail); exact fun hh => by have h9 := nOK_out hh; omega
  · (conv => whnf); refine alt_r ?_ (by (repeat' (first | with_reducible exact rfl | exact Nat.le_refl _ | with_reducible exact (fun _ _ => rfl) | ((conv => whnf); first | refine ⟨?_, ?_⟩ | exact trivial | fail))); first | ((all_goals ((try dsimp only [laNew] at *); (all_goals (try simp (disch := omega) only [w64', wu64', tdiv_pos, tmod_pos, Int.toNat_natCast, Nat.zero_add] at *)); (all_goals ((try omega))))); done) | fail); exact fun hh => by have h9 := nOK_out hh; omega
  · (conv => whnf); refine alt_r ?_ (by (repeat' (first | with_reducible exact rfl | exact Nat.le_refl _ | with_reducible exact (fun _ _ => rfl) | ((conv => whnf); first | refine ⟨?_, ?_⟩ | exact trivial | fail))); first | ((all_goals ((try dsimp only [laNew] at *); (all_goals (try simp (disch := omega) only [w64', wu64', tdiv_pos, tmod_pos, Int.toNat_natCast, Nat.zero_add] at *)); (all_goals ((try omega))))); done) | fail); exact fun hh => by have h9 := nOK_out hh; omega
  · (conv => whnf); refine alt_r ?_ (by (repeat' (first | with_reducible exact rfl | exact Nat.le_refl _ | with_reducible exact (fun _ _ => rfl) | ((conv => whnf); first | refine ⟨?_, ?_⟩ | exact trivial | fail))); first | ((all_goals ((try dsimp only [laNew] at *); (all_goals (try simp (disch := omega) only [w64', wu64', tdiv_pos, tmod_pos, Int.toNat_natCast, Nat.zero_add] at *)); (all_goals ((try omega))))); done) | fail); exact fun hh => by have h9 := nOK_out hh; omega
  · (conv => whnf); refine enter_mk (la := laNew n room) ⟨0, ⟨_, _, 0, fun _ => 0, fun _ => 0, fun _ => 0, fun _ => 0, fun _ => 0, fun _ => 0, fun _ => 0, fun _ => 0, fun _ => 0⟩⟩ ?_ (by (repeat' (first | ((conv => whnf); first | refine ⟨?_, ?_⟩ | exact trivial | fail) | (dsimp only; done) | ((try dsimp only); first | with_reducible exact rfl | exact Nat.le_refl _ | with_reducible exact (fun _ _ => rfl)))); all_goals ((first | rfl | decide)))
    exact ⟨⟨by show ((0 : Nat) : Int) ≤ n; omega, nOK_mk (by omega)⟩, ⟨Nat.zero_le _, Nat.zero_le _⟩, fun r hr => absurd hr (Nat.not_lt_zero r)⟩
  all_goals (have hx := (by assumption : (laNew n room).inv x); dsimp only [laNew] at hx; obtain ⟨⟨x1, x2⟩, ⟨x3, x4⟩, x5⟩ := hx; have x6 := nOK_out x2)
  · exact x3
  · exact x4
  · omega
  · (conv => whnf)
    (conv => whnf); refine enter_mk (la := laNew n room) ⟨x.i + 1, ⟨x.h.mv, x.h.ma, _, _, _, _, _, _, _, _, _, _⟩⟩ ?_ (by (repeat' (first | ((conv => whnf); first | refine ⟨?_, ?_⟩ | exact trivial | fail) | (dsimp only; done) | ((try dsimp only); first | with_reducible exact rfl | exact Nat.le_refl _ | with_reducible exact (fun _ _ => rfl)))); all_goals ((first | rfl | exact fun r _ => rfl | (show n.toNat - (x.i + 1) < n.toNat - x.i; omega) | (dsimp only; rw [w64' (by omega) (by omega)]; omega))))
    refine ⟨⟨by show ((x.i + 1 : Nat) : Int) ≤ n; omega, x2⟩, ⟨by assumption, by assumption⟩, fun r hr => ?_⟩
    by_cases hri : r < x.i
    · obtain ⟨a0, a1, a2, a3, a4, a5, a6, a7, a8⟩ := x5 r hri
      unfold atNew
      dsimp only
      rw [if_pos hri, if_pos hri, if_pos hri, if_pos hri, if_pos hri, if_pos hri, if_pos hri, if_pos hri, if_pos hri]
      exact ⟨a0, a1, a2, a3, a4, a5, a6, a7, a8⟩
    · obtain rfl : r = x.i := by have hr : r < x.i + 1 := hr; omega
      unfold atNew
      dsimp only
      simp only [Nat.lt_irrefl, if_false, Nat.lt_add_one, if_true, Nat.sub_self]
      exact ⟨rfl, rfl, rfl, rfl, rfl, rfl, rfl, rfl, rfl⟩
  · exact new_inv x2 (by omega) ⟨x3, x4⟩ x5
  · show ((n.toNat : Nat) : Int) = n; omega
  · rfl
  · show n.toNat = x.i; omega
  any_goals (first | rfl | exact fun r _ => rfl | fail)
  · (conv => whnf); refine alt_l ?_ (by (repeat' (first | with_reducible exact rfl | exact Nat.le_refl _ | with_reducible exact (fun _ _ => rfl) | ((conv => whnf); first | refine ⟨?_, ?_⟩ | exact trivial | fail))); first | ((all_goals ((try dsimp only [laNew] at *); (all_goals (try simp (disch := omega) only [w64', wu64', tdiv_pos, tmod_pos, Int.toNat_natCast, Nat.zero_add] at *)); (all_goals ((try omega))))); done) | fail); exact x2
end
noncomputable def newS : ESpec Try.prog := newG fn10 (.s2 (.int .i64) (.int .i64)) (fun y => cxNew y.1 y.2) (fun _ => none) newAlts (fun y v m => newGs y v m) (fun _ v _ => newRen v) (fun _ => rfl) (fun a al hal => by
  rcases List.mem_cons.1 hal with rfl | hal
  · exact rfl
  · rw [List.mem_singleton.1 hal]; exact rfl) (fun a _ => new_runs a)

end Go.Proofs.Ytnkmfkongmijfaa
