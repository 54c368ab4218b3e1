/-
  Contracts of functions, and plain facts about them, that a claim of this seat uses.
-/
import Derived.Test.YtaadejgoafdbcaaSx
import Derived.Test.YtaadejgoafdbcaaPLanE
import Derived.Test.YtaadejgoafdbcaaProg
namespace Go.Proofs.Ytaadejgoafdbcaa
open Go.Sx
set_option linter.unusedVariables false
set_option linter.unusedSimpArgs false
set_option maxRecDepth 100000

/-! lanes: New, Clear. -/
def okTo (a : A8) (n : Nat) : Prop := ∀ k, k < n → 0 ≤ a.f k ∧ a.f k ≤ 4096
def roomsOK (a : A8) : Prop := okTo a 8
def new0 (a : A8) : Ln where
  n := fun _ => 0
  room := a.f
  lost := fun _ => 0
  id := fun _ _ => 0
  sz := fun _ _ => 0
  dr := fun _ _ => false
def hq0 : HQ := ⟨0, fun _ => 0, fun _ => 0, fun _ => false⟩
def lh0 : LH := ⟨hq0, hq0, hq0, hq0, hq0, hq0, hq0, hq0⟩
theorem new_inv {a : A8} (h : roomsOK a) : LnInv (new0 a) lh0 := by
  have key : ∀ k, QOK (new0 a) k hq0 := fun k => ⟨Nat.le_refl _, by decide, fun r hr => absurd hr (Nat.not_lt_zero _)⟩
  refine ⟨⟨fun k _ => Nat.zero_le _, fun k hk => ?_, fun k _ r hr => absurd hr (Nat.not_lt_zero _)⟩, key 0, key 1, key 2, key 3, key 4, key 5, key 6, key 7⟩
  exact (h k hk).2
def itCols : List Col := [.int .i64 (fun _ => 0), .int .i64 (fun _ => 0), .bool (fun _ => false)]
def newGs (a : A8) (v : SV) (m : Mem) : List GC := match v with
  | .tup [.a (.ptr o _), _] => [.nil o 0 3 itCols, .nil o 1 3 itCols, .nil o 2 3 itCols, .nil o 3 3 itCols, .nil o 4 3 itCols, .nil o 5 3 itCols, .nil o 6 3 itCols, .nil o 7 3 itCols, .box [o, m.length, m.length + 1, m.length + 2, m.length + 3, m.length + 4, m.length + 5, m.length + 6, m.length + 7] 15 (lnP (new0 a)) lnK lh0]
  | _ => []
def newRen (v : SV) : List Nat := match v with | .tup [.a (.ptr o _), _] => [o] | _ => []
def newAlts (a : A8) : List Alt := [.cond (roomsOK a) (.tup [.a (.ptr 0 0), .a (i_ 0)]) [some ⟨true, .obj 15 (lnP (new0 a)) (boxI lnK)⟩], .cond (¬ roomsOK a) (.tup [.a (.v (.pointer none)), .a (i_ 1)]) []]
theorem alt_l {m0 : Mem} {ρ : List Nat} {v : SV} {m : Mem} {p : Prop} {v2 : SV} {m2 : Mem} {b : Alt} {l : List Alt} (hp : p) (h : altOne m0 ρ v m v2 m2) : anyAlt m0 ρ v m (.cond p v2 m2 :: b :: l) := .inl ⟨hp, h⟩
theorem alt_r {m0 : Mem} {ρ : List Nat} {v : SV} {m : Mem} {p : Prop} {v2 : SV} {m2 : Mem} {a : Alt} (hp : p) (h : altOne m0 ρ v m v2 m2) : anyAlt m0 ρ v m [a, .cond p v2 m2] := .inr ⟨hp, h⟩
theorem ok_next {a : A8} {k : Nat} (h : okTo a k) (h1 : ¬ a.f k < 0) (h2 : ¬ 4096 < a.f k) : okTo a (k + 1) := by
  intro j hj
  rcases (by omega : j < k ∨ j = k) with h3 | rfl
  · exact h j h3
  · exact ⟨by omega, by omega⟩
theorem ok_bad {a : A8} {k : Nat} (hk : k < 8) (h : a.f k < 0 ∨ 4096 < a.f k) : ¬ roomsOK a := by
  intro h2
  have := h2 k hk
  omega
theorem ok_zero (a : A8) : okTo a 0 := fun k hk => absurd hk (Nat.not_lt_zero k)
theorem ok_8 {a : A8} (h : okTo a 8) : roomsOK a := h
abbrev laNew (a : A8) : LA where
  ι := M9
  inv := fun c => okTo a c.n
  T := fun c => ⟨20, [(1, .one (.a (.ptr 0 0))), (2, .one (.a (.v (.pointer none)))), (3, int_ .i64 0), (6, a8C a), (7, int_ .i64 c.n)], [some ⟨true, .flat [i_ a.a0, i_ a.a1, i_ a.a2, i_ a.a3, i_ a.a4, i_ a.a5, i_ a.a6, i_ a.a7]⟩]⟩
  μ := fun c => 8 - c.n
  ren := fun S => [S.ix 1]
noncomputable def cxNew (a : A8) : Cx Try.prog := { ps := [], es := [], is := [], n0 := 0, loops := fun i => match i with | 2 => some (.inv (laNew a)) | _ => none, cuts := fun _ => none }
section
attribute [local irreducible] anyAlt roomsOK enter okTo
set_option maxHeartbeats 4000000 in
theorem new_runs (a : A8) : Runs (cxNew a) Try.f20 [a8C a] [] fun v m => ghosted (newGs a) v m fun v m => anyAlt [] (newRen v) v m (newAlts a) := by
  repeat' (first | with_reducible exact trivial | with_reducible exact rfl | with_reducible exact Nat.le_refl _ | with_reducible exact (fun _ _ => rfl) | ((conv => whnf); first | ((refine fun (x : M9) => ?_); rcases x with x | x | x | x | x | x | x | x | x) | (exact fun h => absurd h (by decide)) | (intro h9; (have h8 := of_decide_eq_true (p := type_of% h9) (by decide)); clear h8 h9) | (refine fun _ => ?_) | refine ⟨?_, ?_⟩ | exact trivial | exact Nat.le_refl _ | exact lex_q (by kernel_rfl) | exact lex_t (by kernel_rfl) | exact lex_h (by kernel_rfl) | fail))
  all_goals (try decide)
  · (conv => whnf); refine enter_mk (la := laNew a) M9.m0 ?_ (by (repeat' (first | ((conv => whnf); first | refine ⟨?_, ?_⟩ | exact trivial | fail) | (dsimp only; done) | ((try dsimp only); first | with_reducible exact rfl | exact Nat.le_refl _ | with_reducible exact (fun _ _ => rfl)))); all_goals ((first | rfl | decide))); exact ok_zero a
  · (conv => whnf); refine alt_r ?_ (by (repeat' (first | with_reducible exact rfl | exact Nat.le_refl _ | with_reducible exact (fun _ _ => rfl) | ((conv => whnf); first | refine ⟨?_, ?_⟩ | exact trivial | fail))); first | ((all_goals ((try dsimp only [laNew] at *); (all_goals (try simp (disch := omega) only [w64', wu64', tdiv_pos, tmod_pos, Int.toNat_natCast, Nat.zero_add] at *)); (all_goals ((try omega))))); done) | fail); exact ok_bad (k := 0) (by decide) (.inl (by assumption))
  · (conv => whnf); refine alt_r ?_ (by (repeat' (first | with_reducible exact rfl | exact Nat.le_refl _ | with_reducible exact (fun _ _ => rfl) | ((conv => whnf); first | refine ⟨?_, ?_⟩ | exact trivial | fail))); first | ((all_goals ((try dsimp only [laNew] at *); (all_goals (try simp (disch := omega) only [w64', wu64', tdiv_pos, tmod_pos, Int.toNat_natCast, Nat.zero_add] at *)); (all_goals ((try omega))))); done) | fail); exact ok_bad (k := 0) (by decide) (.inr (by assumption))
  · (conv => whnf); refine enter_mk (la := laNew a) M9.m1 ?_ (by (repeat' (first | ((conv => whnf); first | refine ⟨?_, ?_⟩ | exact trivial | fail) | (dsimp only; done) | ((try dsimp only); first | with_reducible exact rfl | exact Nat.le_refl _ | with_reducible exact (fun _ _ => rfl)))); all_goals ((first | rfl | decide))); exact ok_next (k := 0) (by assumption : (laNew a).inv M9.m0) (by assumption) (by assumption)
  · (conv => whnf); refine alt_r ?_ (by (repeat' (first | with_reducible exact rfl | exact Nat.le_refl _ | with_reducible exact (fun _ _ => rfl) | ((conv => whnf); first | refine ⟨?_, ?_⟩ | exact trivial | fail))); first | ((all_goals ((try dsimp only [laNew] at *); (all_goals (try simp (disch := omega) only [w64', wu64', tdiv_pos, tmod_pos, Int.toNat_natCast, Nat.zero_add] at *)); (all_goals ((try omega))))); done) | fail); exact ok_bad (k := 1) (by decide) (.inl (by assumption))
  · (conv => whnf); refine alt_r ?_ (by (repeat' (first | with_reducible exact rfl | exact Nat.le_refl _ | with_reducible exact (fun _ _ => rfl) | ((conv => whnf); first | refine ⟨?_, ?_⟩ | exact trivial | fail))); first | ((all_goals ((try dsimp only [laNew] at *); (all_goals (try simp (disch := omega) only [w64', wu64', tdiv_pos, tmod_pos, Int.toNat_natCast, Nat.zero_add] at *)); (all_goals ((try omega))))); done) | fail); exact ok_bad (k := 1) (by decide) (.inr (by assumption))
  · (conv => whnf); refine enter_mk (la := laNew a) M9.m2 ?_ (by (repeat' (first | ((conv => whnf); first | refine ⟨?_, ?_⟩ | exact trivial | fail) | (dsimp only; done) | ((try dsimp only); first | with_reducible exact rfl | exact Nat.le_refl _ | with_reducible exact (fun _ _ => rfl)))); all_goals ((first | rfl | decide))); exact ok_next (k := 1) (by assumption : (laNew a).inv M9.m1) (by assumption) (by assumption)
  · (conv => whnf); refine alt_r ?_ (by (repeat' (first | with_reducible exact rfl | exact Nat.le_refl _ | with_reducible exact (fun _ _ => rfl) | ((conv => whnf); first | refine ⟨?_, ?_⟩ | exact trivial | fail))); first | ((all_goals ((try dsimp only [laNew] at *); (all_goals (try simp (disch := omega) only [w64', wu64', tdiv_pos, tmod_pos, Int.toNat_natCast, Nat.zero_add] at *)); (all_goals ((try omega))))); done) | fail); exact ok_bad (k := 2) (by decide) (.inl (by assumption))
  · (conv => whnf); refine alt_r ?_ (by (repeat' (first | with_reducible exact rfl | exact Nat.le_refl _ | with_reducible exact (fun _ _ => rfl) | ((conv => whnf); first | refine ⟨?_, ?_⟩ | exact trivial | fail))); first | ((all_goals ((try dsimp only [laNew] at *); (all_goals (try simp (disch := omega) only [w64', wu64', tdiv_pos, tmod_pos, Int.toNat_natCast, Nat.zero_add] at *)); (all_goals ((try omega))))); done) | fail); exact ok_bad (k := 2) (by decide) (.inr (by assumption))
  · (conv => whnf); refine enter_mk (la := laNew a) M9.m3 ?_ (by (repeat' (first | ((conv => whnf); first | refine ⟨?_, ?_⟩ | exact trivial | fail) | (dsimp only; done) | ((try dsimp only); first | with_reducible exact rfl | exact Nat.le_refl _ | with_reducible exact (fun _ _ => rfl)))); all_goals ((first | rfl | decide))); exact ok_next (k := 2) (by assumption : (laNew a).inv M9.m2) (by assumption) (by assumption)
  · (conv => whnf); refine alt_r ?_ (by (repeat' (first | with_reducible exact rfl | exact Nat.le_refl _ | with_reducible exact (fun _ _ => rfl) | ((conv => whnf); first | refine ⟨?_, ?_⟩ | exact trivial | fail))); first | ((all_goals ((try dsimp only [laNew] at *); (all_goals (try simp (disch := omega) only [w64', wu64', tdiv_pos, tmod_pos, Int.toNat_natCast, Nat.zero_add] at *)); (all_goals ((try omega))))); done) | fail); exact ok_bad (k := 3) (by decide) (.inl (by assumption))
  · (conv => whnf); refine alt_r ?_ (by (repeat' (first | with_reducible exact rfl | exact Nat.le_refl _ | with_reducible exact (fun _ _ => rfl) | ((conv => whnf); first | refine ⟨?_, ?_⟩ | exact trivial | fail))); first | ((all_goals ((try dsimp only [laNew] at *); (all_goals (try simp (disch := omega) only [w64', wu64', tdiv_pos, tmod_pos, Int.toNat_natCast, Nat.zero_add] at *)); (all_goals ((try omega))))); done) | fail); exact ok_bad (k := 3) (by decide) (.inr (by assumption))
  · (conv => whnf); refine enter_mk (la := laNew a) M9.m4 ?_ (by (repeat' (first | ((conv => whnf); first | refine ⟨?_, ?_⟩ | exact trivial | fail) | (dsimp only; done) | ((try dsimp only); first | with_reducible exact rfl | exact Nat.le_refl _ | with_reducible exact (fun _ _ => rfl)))); all_goals ((first | rfl | decide))); exact ok_next (k := 3) (by assumption : (laNew a).inv M9.m3) (by assumption) (by assumption)
  · (conv => whnf); refine alt_r ?_ (by (repeat' (first | with_reducible exact rfl | exact Nat.le_refl _ | with_reducible exact (fun _ _ => rfl) | ((conv => whnf); first | refine ⟨?_, ?_⟩ | exact trivial | fail))); first | ((all_goals ((try dsimp only [laNew] at *); (all_goals (try simp (disch := omega) only [w64', wu64', tdiv_pos, tmod_pos, Int.toNat_natCast, Nat.zero_add] at *)); (all_goals ((try omega))))); done) | fail); exact ok_bad (k := 4) (by decide) (.inl (by assumption))
  · (conv => whnf); refine alt_r ?_ (by (repeat' (first | with_reducible exact rfl | exact Nat.le_refl _ | with_reducible exact (fun _ _ => rfl) | ((conv => whnf); first | refine ⟨?_, ?_⟩ | exact trivial | fail))); first | ((all_goals ((try dsimp only [laNew] at *); (all_goals (try simp (disch := omega) only [w64', wu64', tdiv_pos, tmod_pos, Int.toNat_natCast, Nat.zero_add] at *)); (all_goals ((try omega))))); done) | fail); exact ok_bad (k := 4) (by decide) (.inr (by assumption))
  · (conv => whnf); refine enter_mk (la := laNew a) M9.m5 ?_ (by (repeat' (first | ((conv => whnf); first | refine ⟨?_, ?_⟩ | exact trivial | fail) | (dsimp only; done) | ((try dsimp only); first | with_reducible exact rfl | exact Nat.le_refl _ | with_reducible exact (fun _ _ => rfl)))); all_goals ((first | rfl | decide))); exact ok_next (k := 4) (by assumption : (laNew a).inv M9.m4) (by assumption) (by assumption)
  · (conv => whnf); refine alt_r ?_ (by (repeat' (first | with_reducible exact rfl | exact Nat.le_refl _ | with_reducible exact (fun _ _ => rfl) | ((conv => whnf); first | refine ⟨?_, ?_⟩ | exact trivial | fail))); first | ((all_goals ((try dsimp only [laNew] at *); (all_goals (try simp (disch := omega) only [w64', wu64', tdiv_pos, tmod_pos, Int.toNat_natCast, Nat.zero_add] at *)); (all_goals ((try omega))))); done) | fail); exact ok_bad (k := 5) (by decide) (.inl (by assumption))
  · (conv => whnf); refine alt_r ?_ (by (repeat' (first | with_reducible exact rfl | exact Nat.le_refl _ | with_reducible exact (fun _ _ => rfl) | ((conv => whnf); first | refine ⟨?_, ?_⟩ | exact trivial | fail))); first | ((all_goals ((try dsimp only [laNew] at *); (all_goals (try simp (disch := omega) only [w64', wu64', tdiv_pos, tmod_pos, Int.toNat_natCast, Nat.zero_add] at *)); (all_goals ((try omega))))); done) | fail); exact ok_bad (k := 5) (by decide) (.inr (by assumption))
  · (conv => whnf); refine enter_mk (la := laNew a) M9.m6 ?_ (by (repeat' (first | ((conv => whnf); first | refine ⟨?_, ?_⟩ | exact trivial | fail) | (dsimp only; done) | ((try dsimp only); first | with_reducible exact rfl | exact Nat.le_refl _ | with_reducible exact (fun _ _ => rfl)))); all_goals ((first | rfl | decide))); exact ok_next (k := 5) (by assumption : (laNew a).inv M9.m5) (by assumption) (by assumption)
  · (conv => whnf); refine alt_r ?_ (by (repeat' (first | with_reducible exact rfl | exact Nat.le_refl _ | with_reducible exact (fun _ _ => rfl) | ((conv => whnf); first | refine ⟨?_, ?_⟩ | exact trivial | fail))); first | ((all_goals ((try dsimp only [laNew] at *); (all_goals (try simp (disch := omega) only [w64', wu64', tdiv_pos, tmod_pos, Int.toNat_natCast, Nat.zero_add] at *)); (all_goals ((try omega))))); done) | fail); exact ok_bad (k := 6) (by decide) (.inl (by assumption))
  · (conv => whnf); refine alt_r ?_ (by (repeat' (first | with_reducible exact rfl | exact Nat.le_refl _ | with_reducible exact (fun _ _ => rfl) | ((conv => whnf); first | refine ⟨?_, ?_⟩ | exact trivial | fail))); first | ((all_goals ((try dsimp only [laNew] at *); (all_goals (try simp (disch := omega) only [w64', wu64', tdiv_pos, tmod_pos, Int.toNat_natCast, Nat.zero_add] at *)); (all_goals ((try omega))))); done) | fail); exact ok_bad (k := 6) (by decide) (.inr (by assumption))
  · (conv => whnf); refine enter_mk (la := laNew a) M9.m7 ?_ (by (repeat' (first | ((conv => whnf); first | refine ⟨?_, ?_⟩ | exact trivial | fail) | (dsimp only; done) | ((try dsimp only); first | with_reducible exact rfl | exact Nat.le_refl _ | with_reducible exact (fun _ _ => rfl)))); all_goals ((first | rfl | decide))); exact ok_next (k := 6) (by assumption : (laNew a).inv M9.m6) (by assumption) (by assumption)
  · (conv => whnf); refine alt_r ?_ (by (repeat' (first | with_reducible exact rfl | exact Nat.le_refl _ | with_reducible exact (fun _ _ => rfl) | ((conv => whnf); first | refine ⟨?_, ?_⟩ | exact trivial | fail))); first | ((all_goals ((try dsimp only [laNew] at *); (all_goals (try simp (disch := omega) only [w64', wu64', tdiv_pos, tmod_pos, Int.toNat_natCast, Nat.zero_add] at *)); (all_goals ((try omega))))); done) | fail); exact ok_bad (k := 7) (by decide) (.inl (by assumption))
  · (conv => whnf); refine alt_r ?_ (by (repeat' (first | with_reducible exact rfl | exact Nat.le_refl _ | with_reducible exact (fun _ _ => rfl) | ((conv => whnf); first | refine ⟨?_, ?_⟩ | exact trivial | fail))); first | ((all_goals ((try dsimp only [laNew] at *); (all_goals (try simp (disch := omega) only [w64', wu64', tdiv_pos, tmod_pos, Int.toNat_natCast, Nat.zero_add] at *)); (all_goals ((try omega))))); done) | fail); exact ok_bad (k := 7) (by decide) (.inr (by assumption))
  · (conv => whnf); refine enter_mk (la := laNew a) M9.m8 ?_ (by (repeat' (first | ((conv => whnf); first | refine ⟨?_, ?_⟩ | exact trivial | fail) | (dsimp only; done) | ((try dsimp only); first | with_reducible exact rfl | exact Nat.le_refl _ | with_reducible exact (fun _ _ => rfl)))); all_goals ((first | rfl | decide))); exact ok_next (k := 7) (by assumption : (laNew a).inv M9.m7) (by assumption) (by assumption)
  · exact new_inv (ok_8 (by assumption : (laNew a).inv M9.m8))
  repeat (exact rfl)
  · (conv => whnf); refine alt_l ?_ (by (repeat' (first | with_reducible exact rfl | exact Nat.le_refl _ | with_reducible exact (fun _ _ => rfl) | ((conv => whnf); first | refine ⟨?_, ?_⟩ | exact trivial | fail))); first | ((all_goals ((try dsimp only [laNew] at *); (all_goals (try simp (disch := omega) only [w64', wu64', tdiv_pos, tmod_pos, Int.toNat_natCast, Nat.zero_add] at *)); (all_goals ((try omega))))); done) | fail); exact ok_8 (by assumption : (laNew a).inv M9.m8)
end
noncomputable def newS : ESpec Try.prog := newG fn20 (.s1 Lens.a8) cxNew (fun _ => none) newAlts (fun a v m => newGs a v m) (fun _ v _ => newRen v) (fun _ => rfl) (fun a al hal => by
  rcases List.mem_cons.1 hal with rfl | hal
  · exact rfl
  · rw [List.mem_singleton.1 hal]; exact rfl) (fun a _ => new_runs a)

end Go.Proofs.Ytaadejgoafdbcaa
