/-
  Contracts of functions, and plain facts about them, that a claim of this seat uses.
-/
import Derived.Test.YtiaadplhpkggeaaSx
import Derived.Test.YtiaadplhpkggeaaFcsNum
import Derived.Test.YtiaadplhpkggeaaFcsBits
import Derived.Test.YtiaadplhpkggeaaFcsA
import Derived.Test.YtiaadplhpkggeaaFcsB
import Derived.Test.YtiaadplhpkggeaaFcsC
import Derived.Test.YtiaadplhpkggeaaFcsIn
import Derived.Test.YtiaadplhpkggeaaFcsJ
import Derived.Test.YtiaadplhpkggeaaProg
namespace Go.Proofs.Ytiaadplhpkggeaa
open Go.Sx
set_option linter.unusedVariables false
set_option linter.unusedSimpArgs false
set_option maxRecDepth 100000

/-! the first bit that makes a check fit. -/
theorem fn27 : FnOf Try.prog 27 Try.f27 := ⟨Try.func27, rfl, rfl, mixed⟩
attribute [local irreducible] enter anyAlt Bw
def hitP (g : Nat → Int) (n : Nat) : Option Nat := if opB g n ∨ n < 4 then none else (List.range (8 * n)).find? fun p => decide (opB (flp g p) n)
def hitI (a : IS) : Int := match hitP a.g a.len with | some p => ((p / 8 : Nat) : Int) | none => 0
def hitK (a : IS) : Int := match hitP a.g a.len with | some p => ((p % 8 : Nat) : Int) | none => 0
def hitO (a : IS) : Bool := (hitP a.g a.len).isSome
def noBit (g : Nat → Int) (n m : Nat) : Prop := ∀ p, p < m → ¬ opB (flp g p) n
theorem hit_some {g : Nat → Int} {n p : Nat} (h1 : ¬ opB g n) (h2 : 4 ≤ n) (hp : p < 8 * n) (hn : noBit g n p) (h : opB (flp g p) n) : hitP g n = some p := by
  unfold hitP
  rw [if_neg (by intro h9; rcases h9 with h9 | h9; exact h1 h9; omega), List.find?_range_eq_some]
  refine ⟨decide_eq_true h, List.mem_range.2 hp, fun j hj => ?_⟩
  rw [decide_eq_false (hn j hj)]; rfl
theorem hit_none {g : Nat → Int} {n : Nat} (h : opB g n ∨ n < 4 ∨ noBit g n (8 * n)) : hitP g n = none := by
  unfold hitP
  by_cases h1 : opB g n ∨ n < 4
  · rw [if_pos h1]
  · rw [if_neg h1, List.find?_eq_none]
    intro p hp
    rw [List.mem_range] at hp
    rcases h with h | h | h
    · exact absurd (.inl h) h1
    · exact absurd (.inr h) h1
    · rw [decide_eq_false (h p hp)]; decide
theorem hit0 {a : IS} (h : opB a.g a.len ∨ a.len < 4 ∨ noBit a.g a.len (8 * a.len)) : hitI a = 0 ∧ hitK a = 0 ∧ hitO a = false := by
  unfold hitI hitK hitO
  rw [hit_none h]; exact ⟨rfl, rfl, rfl⟩
theorem hit1 {a : IS} {i k : Int} (h1 : ¬ opB a.g a.len) (h2 : 4 ≤ a.len) (hi : 0 ≤ i ∧ i < a.len) (hk : 0 ≤ k ∧ k < 8) (hn : noBit a.g a.len (8 * i.toNat + k.toNat)) (h : opB (flp a.g (8 * i.toNat + k.toNat)) a.len) : hitI a = i ∧ hitK a = k ∧ hitO a = true := by
  unfold hitI hitK hitO
  rw [hit_some h1 h2 (by omega) hn h]
  refine ⟨?_, ?_, rfl⟩
  · show (((8 * i.toNat + k.toNat) / 8 : Nat) : Int) = i
    omega
  · show (((8 * i.toNat + k.toNat) % 8 : Nat) : Int) = k
    omega
theorem turned2 {h : Nat → Int} {n : Nat} {i k : Int} (hh : Bytes h n) (hi : 0 ≤ i ∧ i < n) (hk : 0 ≤ k ∧ k < 8) (r : Nat) :
    (if r = i.toNat then bits .xor .u8 (h i.toNat) (((1 : Int) * 2 ^ (if k.toNat ≤ 8 then k.toNat else 8)) % 256) else h r) = flp h (8 * i.toNat + k.toNat) r := by
  have := turned (h := h) (n := n) (p := 8 * i + k) hh (by omega) (by omega) r
  rw [show (8 * i + k) / 8 = i by omega, show (8 * i + k) % 8 = k by omega, show (8 * i + k).toNat = 8 * i.toNat + k.toNat by omega] at this
  exact this
theorem flp_congr {g h : Nat → Int} {n : Nat} (e : ∀ r, r < n → g r = h r) (p r : Nat) (hr : r < n) : flp g p r = flp h p r := by
  unfold flp; rw [e r hr]
theorem noBit_step {g : Nat → Int} {n m : Nat} (h : noBit g n m) (h2 : ¬ opB (flp g m) n) : noBit g n (m + 1) := fun p hp => by
  rcases Nat.lt_or_ge p m with h3 | h3
  · exact h p h3
  · rw [show p = m by omega]; exact h2
abbrev laHO (a : IS) : LA where
  ι := Nat × (Nat → Int) × Int
  inv := fun y => (0 ≤ y.2.2 ∧ y.2.2 ≤ a.len) ∧ CB a.len a.g ⟨y.1, y.2.1⟩ ∧ noBit a.g a.len (8 * y.2.2.toNat)
  T := fun y => ⟨59, [(7, .one (.a (.slc 1 1 0 a.len y.1))), (26, int_ .i64 a.len), (27, int_ .i64 y.2.2)], [roB a, some ⟨true, .tab y.1 [.int .u8 y.2.1]⟩]⟩
  μ := fun y => (a.len - y.2.2).toNat
  ren := fun S => [0, S.ix 7]
abbrev laHI (a : IS) (i : Int) : LA where
  ι := Int × Nat × (Nat → Int)
  inv := fun y => (0 ≤ i ∧ i < a.len) ∧ (0 ≤ y.1 ∧ y.1 ≤ 8) ∧ CB a.len a.g ⟨y.2.1, y.2.2⟩ ∧ noBit a.g a.len (8 * i.toNat + y.1.toNat)
  T := fun y => ⟨59, [(7, .one (.a (.slc 1 1 0 a.len y.2.1))), (8, int_ .i64 i), (26, int_ .i64 a.len), (27, int_ .i64 i), (30, int_ .i64 y.1)], [roB a, some ⟨true, .tab y.2.1 [.int .u8 y.2.2]⟩]⟩
  μ := fun y => (8 - y.1).toNat
  ren := fun S => [0, S.ix 7]
noncomputable def cxHit (a : IS) : Cx Try.prog := { ps := [], es := [openS], is := [], n0 := 1, loops := fun i => match i with | 6 => some (.inv (laHO a)) | 9 => some (.here 27 (laHI a)) | _ => none, cuts := fun _ => none }
set_option maxHeartbeats 16000000 in
theorem hit_runs (a : IS) (hp : obp (some (Bw a ∧ a.len ≤ 10000))) : Runs (cxHit a) Try.f27 [D1 0 a] [roB a] fun v m => isRes (.tup [.a (.v (.int .i64 (hitI a))), .a (.v (.int .i64 (hitK a))), .a (.v (.bool (hitO a)))]) v := by
  obtain ⟨hw, hl⟩ : Bw a ∧ a.len ≤ 10000 := hp
  obtain ⟨hb, hc, hN, hm⟩ := hw.out
  have hs := hw.self
  repeat' (first | with_reducible exact trivial | with_reducible exact rfl | with_reducible exact Nat.le_refl _ | with_reducible exact (fun _ _ => rfl) | ((conv => whnf); first | (refine fun (x : CG) => ?_) | (refine fun (y : Int × Nat × (Nat → Int)) => ?_) | (refine fun (z : Nat × (Nat → Int) × Int) => ?_) | (refine fun _ => ?_) | refine ⟨?_, ?_⟩ | exact trivial | exact Nat.le_refl _ | exact lex_q (by kernel_rfl) | exact lex_t (by kernel_rfl) | exact lex_h (by kernel_rfl) | fail))
  any_goals (refine enter_mk (la := laHO a) (_, _, _) ?_ (by (repeat' (first | ((conv => whnf); first | refine ⟨?_, ?_⟩ | exact trivial | fail) | (dsimp only; done) | ((try dsimp only); first | with_reducible exact rfl | exact Nat.le_refl _ | with_reducible exact (fun _ _ => rfl)))); first | ((all_goals ((try dsimp only [laHO] at *); (all_goals (try simp (disch := omega) only [w64', wu64', tdiv_pos, tmod_pos, Int.toNat_natCast, Nat.zero_add] at *)); (all_goals ((try omega))))); done) | fail))
  any_goals (refine enter_mk (la := laHI a _) (_, _, _) ?_ (by (repeat' (first | ((conv => whnf); first | refine ⟨?_, ?_⟩ | exact trivial | fail) | (dsimp only; done) | ((try dsimp only); first | with_reducible exact rfl | exact Nat.le_refl _ | with_reducible exact (fun _ _ => rfl)))); first | ((all_goals ((try dsimp only [laHI] at *); (all_goals (try simp (disch := omega) only [w64', wu64', tdiv_pos, tmod_pos, Int.toNat_natCast, Nat.zero_add] at *)); (all_goals ((try omega))))); done) | fail))
  all_goals (try dsimp only [cutR, cutL, id, laHO, laHI] at *)
  all_goals (try simp (disch := omega) only [fdiv_nn, Int.reduceToNat, IntKind.bits, Nat.min_def, Nat.reduceLeDiff, if_true, if_false, Int.reducePow, wu8, wu32, w64', wu64', tdiv_pos, tmod_pos, Int.toNat_natCast, Nat.zero_add] at *)
  all_goals (try omega)
  all_goals (try exact absurd (by assumption : true = false) (by decide))
  all_goals (try exact absurd (by assumption : false = true) (by decide))
  all_goals first
    | exact (hit0 (.inl (by assumption : _ ∧ _).1)).1
    | exact (hit0 (.inl (by assumption : _ ∧ _).1)).2.1
    | exact (hit0 (.inl (by assumption : _ ∧ _).1)).2.2
    | exact (hit0 (.inr (.inl (by omega)))).1
    | exact (hit0 (.inr (.inl (by omega)))).2.1
    | exact (hit0 (.inr (.inl (by omega)))).2.2
    | (refine ⟨by omega, ⟨by omega, by omega, fun r hr => ?_⟩, fun p hp => absurd hp (by omega)⟩
       dsimp only
       rw [if_neg (by omega), if_pos (by omega)]; rfl)
    | (have hz := (by assumption : (0 ≤ z.2.2 ∧ _) ∧ _)
       obtain ⟨z1, z2, z3⟩ := hz
       have hno : ¬ opB a.g a.len := by assumption
       first
       | exact ⟨by omega, by omega, z2, z3⟩
       | exact (hit0 (.inr (.inr ((by omega : 8 * z.2.2.toNat = 8 * a.len) ▸ z3)))).1
       | exact (hit0 (.inr (.inr ((by omega : 8 * z.2.2.toNat = 8 * a.len) ▸ z3)))).2.1
       | exact (hit0 (.inr (.inr ((by omega : 8 * z.2.2.toNat = 8 * a.len) ▸ z3)))).2.2
       | (have hy := (by assumption : _ ∧ (0 ≤ y.1 ∧ _) ∧ _)
          obtain ⟨y1, y2, y3, y4⟩ := hy
          have yb : Bytes y.2.2 a.len := hb.congr y3.2.2
          have y5 : a.len ≤ y.2.1 := y3.1
          have y6 : y.2.1 ≤ 9223372036854775807 := y3.2.1
          first
          | omega
          | (refine ⟨by omega, y3, ?_⟩
             rw [show 8 * (z.2.2 + 1).toNat = 8 * z.2.2.toNat + y.1.toNat by omega]; exact y4)
          | (have ht := turned2 (i := z.2.2) (k := y.1) yb y1 (by omega)
             have hF := funext ht
             have hfc : ∀ r, r < a.len → flp y.2.2 (8 * z.2.2.toNat + y.1.toNat) r = flp a.g (8 * z.2.2.toNat + y.1.toNat) r := fun r hr => flp_congr y3.2.2 _ r hr
             have hfb : Bytes (flp y.2.2 (8 * z.2.2.toNat + y.1.toNat)) a.len := (Off.flpd yb).bytes yb
             have ec := opB_congr hfc
             have hFb := hfb
             rw [← hF] at hFb
             first
             | exact Bw.mk hFb y5 y5 y6
             | (have h6 : opB (flp y.2.2 (8 * z.2.2.toNat + y.1.toNat)) a.len := by
                  rw [← hF]; exact (by assumption : opB _ a.len ∧ CB _ _ _).1
                have h7 := hit1 hno (by omega) y1 ⟨y2.1, by omega⟩ y4 (ec.1 h6)
                first
                | exact h7.1
                | exact h7.2.1
                | exact h7.2.2)
             | (have h6 : ¬ opB (flp y.2.2 (8 * z.2.2.toNat + y.1.toNat)) a.len := by
                  rw [← hF]; assumption
                refine ⟨y1, by omega, ⟨y5, y6, fun r hr => ?_⟩, ?_⟩
                · have h8 := turned2 (i := z.2.2) (k := y.1) hFb y1 (by omega) r
                  simp only [if_true] at h8
                  refine (h8.trans ?_).trans (y3.2.2 r hr)
                  rw [hF]
                  exact flip_two yb r hr
                · rw [show 8 * z.2.2.toNat + (y.1 + 1).toNat = 8 * z.2.2.toNat + y.1.toNat + 1 by omega]
                  exact noBit_step y4 fun h9 => h6 (ec.2 h9)))))
noncomputable def hitS : PSpec Try.prog := readN fn27 (.s1 dB) cxHit (fun a => some (Bw a ∧ a.len ≤ 10000)) (fun a => .tup [.a (.v (.int .i64 (hitI a))), .a (.v (.int .i64 (hitK a))), .a (.v (.bool (hitO a)))]) (fun _ => rfl) (fun _ => rfl) (fun _ => rfl) hit_runs

end Go.Proofs.Ytiaadplhpkggeaa
