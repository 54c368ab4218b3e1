/-
  Contracts of functions, and plain facts about them, that a claim of this seat uses.
-/
import Derived.Test.YtiaadplhpkggeaaSx
import Derived.Test.YtiaadplhpkggeaaFcsNum
import Derived.Test.YtiaadplhpkggeaaFcsBits
import Derived.Test.YtiaadplhpkggeaaFcsA
import Derived.Test.YtiaadplhpkggeaaFcsB
import Derived.Test.YtiaadplhpkggeaaProg
namespace Go.Proofs.Ytiaadplhpkggeaa
open Go.Sx
set_option linter.unusedVariables false
set_option linter.unusedSimpArgs false
set_option maxRecDepth 100000

/-! the check: Open, Opens, the laws' head. -/
theorem or32 {a b : Int} {k : Nat} (hk : k ≤ 32) (ha : 0 ≤ a ∧ a < 2 ^ k) (hb : 0 ≤ b) (hs : a + 2 ^ k * b < 4294967296) : bits .or .u32 a (2 ^ k * b) = a + 2 ^ k * b := by
  have hb2 : 2 ^ k * b = ((2 ^ k * b.toNat : Nat) : Int) := by
    rw [Int.natCast_mul, Int.natCast_pow, Int.toNat_of_nonneg hb]; rfl
  have ha2 : a = ((a.toNat : Nat) : Int) := by omega
  have hlt : a.toNat < 2 ^ k := by
    have : ((2 ^ k : Nat) : Int) = 2 ^ k := by simp
    omega
  have e1 := Nat.two_pow_add_eq_or_of_lt hlt b.toNat
  have hp : 0 ≤ 2 ^ k * b := by rw [hb2]; exact Int.natCast_nonneg _
  have h3 : (BitVec.ofInt 32 a ||| BitVec.ofInt 32 (2 ^ k * b)).toNat = a.toNat + 2 ^ k * b.toNat := by
    rw [BitVec.toNat_or, nat_ofInt ha.1 (by show _ < 4294967296; omega), nat_ofInt hp (by show _ < 4294967296; omega), hb2, Int.toNat_natCast, Nat.or_comm, ← e1, Nat.add_comm]
  show IntKind.u32.wrap ((BitVec.ofInt 32 a ||| BitVec.ofInt 32 (2 ^ k * b)).toNat : Int) = _
  rw [h3, wu32, hb2]
  rw [hb2] at hs
  omega
theorem or_bytes {a b c d : Int} (ha : 0 ≤ a ∧ a < 256) (hb : 0 ≤ b ∧ b < 256) (hc : 0 ≤ c ∧ c < 256) (hd : 0 ≤ d ∧ d < 256) :
    bits .or .u32 (bits .or .u32 (bits .or .u32 a (b * 256)) (c * 65536)) (d * 16777216) = a + 256 * b + 65536 * c + 16777216 * d := by
  have e1 := or32 (k := 8) (a := a) (b := b) (by decide) (by omega) hb.1 (by omega)
  rw [show (2 : Int) ^ 8 = 256 by decide] at e1
  have e2 := or32 (k := 16) (a := a + 256 * b) (b := c) (by decide) (by rw [show (2 : Int) ^ 16 = 65536 by decide]; omega) hc.1 (by rw [show (2 : Int) ^ 16 = 65536 by decide]; omega)
  rw [show (2 : Int) ^ 16 = 65536 by decide] at e2
  have e3 := or32 (k := 24) (a := a + 256 * b + 65536 * c) (b := d) (by decide) (by rw [show (2 : Int) ^ 24 = 16777216 by decide]; omega) hd.1 (by rw [show (2 : Int) ^ 24 = 16777216 by decide]; omega)
  rw [show (2 : Int) ^ 24 = 16777216 by decide] at e3
  rw [Int.mul_comm b, Int.mul_comm c, Int.mul_comm d, e1, e2, e3]
noncomputable def cx25 : Cx Try.prog := { ps := [sumS], es := [], is := [], n0 := 1, loops := fun _ => none, cuts := fun _ => none, held := fun i => match i with | 5 => some (true, .take 0 (.take 1 (.take 2 (.take 3 (.take 4 (.take 5 (.take 6 (.take 7 (.take 8 (.take 9 (.take 10 (.take 11 (.take 12 (.take 13 (.take 14 (.take 15 (.take 16 (.take 17 (.take 18 (.take 19 (.take 20 (.take 21 (.take 22 (.take 23 (.take 24 (.take 25 (.take 26 (.take 27 (.take 28 (.take 29 (.take 30 .done))))))))))))))))))))))))))))))) | _ => none }
def openAlts (a : IS) : List Alt := [.cond (¬ opB a.g a.len) (.tup [.a (.v (.slice none 0 0)), .a (.v (.bool false))]) [roB a], .fam CG (fun y => opB a.g a.len ∧ CB (a.len - 4) a.g y) (fun y => .tup [.a (.slc 1 1 0 (a.len - 4) y.cap), .a (.v (.bool true))]) (fun y => [roB a, rwB y])]
def opRen (v : SV) : List Nat := match v.ixAt 0 with | 0 => [0] | i => [0, i]
theorem open_no {a : IS} {m : Mem} (hp : ¬ opB a.g a.len) (h : altOne [roB a] [0] (.tup [.a (.v (.slice none 0 0)), .a .ff]) m (.tup [.a (.v (.slice none 0 0)), .a (.v (.bool false))]) [roB a]) : anyAlt [roB a] (opRen (.tup [.a (.v (.slice none 0 0)), .a .ff])) (.tup [.a (.v (.slice none 0 0)), .a .ff]) m (openAlts a) := alt_l hp h
theorem open_no2 {a : IS} {m : Mem} (hp : ¬ opB a.g a.len) (h : altOne [roB a] [0] (.tup [.a (.v (.slice none 0 0)), .a (.v (.bool false))]) m (.tup [.a (.v (.slice none 0 0)), .a (.v (.bool false))]) [roB a]) : anyAlt [roB a] (opRen (.tup [.a (.v (.slice none 0 0)), .a (.v (.bool false))])) (.tup [.a (.v (.slice none 0 0)), .a (.v (.bool false))]) m (openAlts a) := alt_l hp h
attribute [local irreducible] enter anyAlt Bw
set_option maxHeartbeats 4000000 in
theorem open_runs (a : IS) (hp : obp (some (Bw a ∧ a.len ≤ 100000))) : Runs cx25 Try.f25 [D1 0 a] [roB a] fun v m => anyAlt [roB a] (opRen v) v m (openAlts a) := by
  obtain ⟨hw, hl⟩ : Bw a ∧ a.len ≤ 100000 := hp
  obtain ⟨hb, hc, hN, hm⟩ := hw.out
  have e4 : 4 ≤ a.len → ((a.len : Int) - 4).toNat = a.len - 4 := fun h => by omega
  repeat' (first | with_reducible exact trivial | with_reducible exact rfl | with_reducible exact Nat.le_refl _ | with_reducible exact (fun _ _ => rfl) | ((conv => whnf); first | (refine fun _ => ?_) | refine ⟨?_, ?_⟩ | exact trivial | exact Nat.le_refl _ | exact lex_q (by kernel_rfl) | exact lex_t (by kernel_rfl) | exact lex_h (by kernel_rfl) | fail))
  any_goals (first
    | refine open_no ?_ (by (repeat' (first | with_reducible exact rfl | exact Nat.le_refl _ | with_reducible exact (fun _ _ => rfl) | ((conv => whnf); first | refine ⟨?_, ?_⟩ | exact trivial | fail))); first | ((all_goals ((try dsimp only [id] at *); (all_goals (try simp (disch := omega) only [w64', wu64', tdiv_pos, tmod_pos, Int.toNat_natCast, Nat.zero_add] at *)); (all_goals ((try omega))))); done) | fail)
    | refine alt_r (alt_fam (α := CG) ⟨_, _⟩ ?_ (by (repeat' (first | with_reducible exact rfl | exact Nat.le_refl _ | with_reducible exact (fun _ _ => rfl) | ((conv => whnf); first | refine ⟨?_, ?_⟩ | exact trivial | fail))); first | ((all_goals ((try dsimp only [id, cutL] at *); (all_goals (try simp (disch := omega) only [w64', wu64', tdiv_pos, tmod_pos, Int.toNat_natCast, Nat.zero_add] at *)); (all_goals ((try omega))))); done) | fail)))
  all_goals (try dsimp only [cutR, cutL, id] at *)
  all_goals (try simp (disch := omega) only [fdiv_nn, Int.reduceToNat, IntKind.bits, Nat.min_def, Nat.reduceLeDiff, if_true, if_false, Int.reducePow, wu8, wu32, w64', wu64', tdiv_pos, tmod_pos, Int.toNat_natCast, Nat.zero_add] at *)
  all_goals (try omega)
  all_goals (try exact hw.sub (by omega))
  · intro h; have := h.1; omega
  · rename_i h1 h2
    have k4 : 4 ≤ a.len := by omega
    obtain ⟨e0, b0, b1, b2, b3⟩ : _ ∧ _ ∧ _ ∧ _ ∧ _ := ⟨e4 k4, hb (a.len - 4) (by omega), hb (a.len - 4 + 1) (by omega), hb (a.len - 4 + 2) (by omega), hb (a.len - 4 + 3) (by omega)⟩
    rw [e0, show ((a.len : Int) - 4 + 1).toNat = a.len - 4 + 1 by omega, show ((a.len : Int) - 4 + 2).toNat = a.len - 4 + 2 by omega, show ((a.len : Int) - 4 + 3).toNat = a.len - 4 + 3 by omega,
      show a.g (a.len - 4) % 4294967296 = a.g (a.len - 4) by omega, show a.g (a.len - 4 + 1) % 4294967296 * 256 % 4294967296 = a.g (a.len - 4 + 1) * 256 by omega, show a.g (a.len - 4 + 2) % 4294967296 * 65536 % 4294967296 = a.g (a.len - 4 + 2) * 65536 by omega, show a.g (a.len - 4 + 3) % 4294967296 * 16777216 % 4294967296 = a.g (a.len - 4 + 3) * 16777216 by omega, or_bytes b0 b1 b2 b3] at h2
    exact fun h => h2 h.2
  · rename_i cc tt h1 _ h2 h5
    have k4 : 4 ≤ a.len := by omega
    obtain ⟨e0, b0, b1, b2, b3⟩ : _ ∧ _ ∧ _ ∧ _ ∧ _ := ⟨e4 k4, hb (a.len - 4) (by omega), hb (a.len - 4 + 1) (by omega), hb (a.len - 4 + 2) (by omega), hb (a.len - 4 + 3) (by omega)⟩
    rw [e0, show ((a.len : Int) - 4 + 1).toNat = a.len - 4 + 1 by omega, show ((a.len : Int) - 4 + 2).toNat = a.len - 4 + 2 by omega, show ((a.len : Int) - 4 + 3).toNat = a.len - 4 + 3 by omega,
      show a.g (a.len - 4) % 4294967296 = a.g (a.len - 4) by omega, show a.g (a.len - 4 + 1) % 4294967296 * 256 % 4294967296 = a.g (a.len - 4 + 1) * 256 by omega, show a.g (a.len - 4 + 2) % 4294967296 * 65536 % 4294967296 = a.g (a.len - 4 + 2) * 65536 by omega, show a.g (a.len - 4 + 3) % 4294967296 * 16777216 % 4294967296 = a.g (a.len - 4 + 3) * 16777216 by omega, or_bytes b0 b1 b2 b3] at h2
    refine ⟨⟨k4, Decidable.not_not.1 h2⟩, (show a.len - 4 ≤ cc by omega), h1, fun r hr => ?_⟩
    dsimp only
    rw [if_neg (by omega), if_pos (by omega)]; rfl
noncomputable def openS : ESpec Try.prog := newN fn25 (.s1 dB) (fun _ => cx25) (fun a => some (Bw a ∧ a.len ≤ 100000)) openAlts (fun _ v _ => opRen v) (fun _ => rfl) (fun x a ha => by
  rcases List.mem_cons.1 ha with h | h
  · rw [h]; rfl
  · rw [List.mem_singleton.1 h]; exact fun _ => rfl) open_runs
noncomputable def cx26 : Cx Try.prog := { ps := [sameS], es := [rcloseS], is := [], n0 := 1, loops := fun _ => none, cuts := fun _ => none }
instance (g : Nat → Int) (n : Nat) : Decidable (opB g n) := by unfold opB; exact inferInstance
def opD (a : IS) : Bool := decide (opB a.g a.len)
theorem opens_same {a : IS} (hw : Bw a) (h4 : 4 ≤ a.len) {x : CG} {k : Nat} (hk : k + 4 = a.len) (hx : CB (k + 4) (clG a.g k) x) : opD a = sameB ⟨k + 4, x.cap, x.cap - 0, fun q => x.g (q + 0)⟩ ⟨a.len, a.cap, a.N - 0, fun q => a.g (q + 0)⟩ := by
  obtain ⟨hb, _⟩ := hw.out
  have hbk : ∀ r, r < k → 0 ≤ a.g r ∧ a.g r < 256 := fun r hr => hb r (by omega)
  have hcr := crcI_bd hbk
  have hbx : Bytes (fun q => x.g (q + 0)) (k + 4) := (show Bytes (clG a.g k) (k + 4) from fun r _ => clG_wf hbk r).congr hx.2.2
  have key := sameB_iff (a := ⟨k + 4, x.cap, x.cap - 0, fun q => x.g (q + 0)⟩) (b := ⟨a.len, a.cap, a.N - 0, fun q => a.g (q + 0)⟩) hbx hb
  have e : (sameB ⟨k + 4, x.cap, x.cap - 0, fun q => x.g (q + 0)⟩ ⟨a.len, a.cap, a.N - 0, fun q => a.g (q + 0)⟩ = true) ↔ opB a.g a.len := by
    rw [key]
    unfold opB
    rw [show a.len - 4 = k by omega]
    have b0 := hb k (by omega)
    have b1 := hb (k + 1) (by omega)
    have b2 := hb (k + 2) (by omega)
    have b3 := hb (k + 3) (by omega)
    constructor
    · rintro ⟨_, h⟩
      refine ⟨h4, ?_⟩
      have g0 := h k (by show k < k + 4; omega)
      have g1 := h (k + 1) (by show k + 1 < k + 4; omega)
      have g2 := h (k + 2) (by show k + 2 < k + 4; omega)
      have g3 := h (k + 3) (by show k + 3 < k + 4; omega)
      simp only [Nat.add_zero] at g0 g1 g2 g3
      rw [hx.2.2 _ (by omega), clG_0] at g0
      rw [hx.2.2 _ (by omega), clG_1] at g1
      rw [hx.2.2 _ (by omega), clG_2] at g2
      rw [hx.2.2 _ (by omega), clG_3] at g3
      unfold le32; omega
    · rintro ⟨_, h⟩
      refine ⟨hk, fun r hr => ?_⟩
      have hr : r < k + 4 := hr
      show x.g (r + 0) = a.g (r + 0)
      rw [Nat.add_zero, hx.2.2 r hr]
      unfold le32 at h
      rcases (by omega : r < k ∨ r = k ∨ r = k + 1 ∨ r = k + 2 ∨ r = k + 3) with h5 | h5 | h5 | h5 | h5
      · exact clG_old h5
      · subst h5; rw [clG_0]; omega
      · subst h5; rw [clG_1]; omega
      · subst h5; rw [clG_2]; omega
      · subst h5; rw [clG_3]; omega
  unfold opD
  by_cases h : opB a.g a.len
  · rw [e.2 h, decide_eq_true h]
  · rw [decide_eq_false h]
    cases hh : sameB ⟨k + 4, x.cap, x.cap - 0, fun q => x.g (q + 0)⟩ ⟨a.len, a.cap, a.N - 0, fun q => a.g (q + 0)⟩ with
    | false => rfl
    | true => exact absurd (e.1 hh) h
theorem CB.close {a : IS} (hw : Bw a) {k : Nat} (hk : k ≤ a.len) {x : CG} (hx : CB (k + 4) (clG a.g k) x) : Bw ⟨k + 4, x.cap, x.cap - 0, fun q => x.g (q + 0)⟩ := hx.bw fun r _ => clG_wf (fun r hr => hw.out.1 r (by omega)) r
theorem ropens_runs (a : IS) (hp : obp (some (Bw a ∧ a.len ≤ 100000))) : Runs cx26 Try.f26 [D1 0 a] [roB a] fun v m => isRes (.one (.a (.v (.bool (opD a))))) v := by
  obtain ⟨hw, hl⟩ : Bw a ∧ a.len ≤ 100000 := hp
  obtain ⟨hb, hc, hN, hm⟩ := hw.out
  have e4 : 4 ≤ a.len → ((a.len : Int) - 4).toNat = a.len - 4 := fun h => by omega
  repeat' (first | with_reducible exact trivial | with_reducible exact rfl | with_reducible exact Nat.le_refl _ | with_reducible exact (fun _ _ => rfl) | ((conv => whnf); first | (refine fun (x : CG) => ?_) | (refine fun _ => ?_) | refine ⟨?_, ?_⟩ | exact trivial | exact Nat.le_refl _ | exact lex_q (by kernel_rfl) | exact lex_t (by kernel_rfl) | exact lex_h (by kernel_rfl) | fail))
  all_goals (try dsimp only [cutR, cutL, id] at *)
  all_goals (try simp (disch := omega) only [fdiv_nn, Int.reduceToNat, IntKind.bits, Nat.min_def, Nat.reduceLeDiff, if_true, if_false, Int.reducePow, wu8, wu32, w64', wu64', tdiv_pos, tmod_pos, Int.toNat_natCast, Nat.zero_add] at *)
  all_goals (try omega)
  all_goals (try exact hw.sub (by omega))
  · exact CB.close hw (by omega) (by assumption)
  · exact opens_same hw (by omega) (by omega) (by assumption)
  · exact decide_eq_false fun h => by have := h.1; omega
noncomputable def opensS : PSpec Try.prog := readN fn26 (.s1 dB) (fun _ => cx26) (fun a => some (Bw a ∧ a.len ≤ 100000)) (fun a => .one (.a (.v (.bool (opD a))))) (fun _ => rfl) (fun _ => rfl) (fun _ => rfl) ropens_runs
theorem digits_crc : crcI (fun q => [(49 : Int), 50, 51, 52, 53, 54, 55, 56, 57].getD q 0) 9 = 3421780262 := by decide +kernel
noncomputable def cx18 : Cx Try.prog := { ps := [sumS], es := [], is := [], n0 := 0, loops := fun _ => none, cuts := fun _ => none }
def Sig.s0 : Sig Unit where
  sh := []
  pat := fun a => match a with | [] => some () | _ => none
  arg := fun _ => []
  ok := fun a x h => by
    split at h
    · rfl
    · cases h
theorem head_runs (_ : Unit) (_ : obp (some True)) : Runs cx18 Try.f18 [] [] fun v _ => isRes (.one (.a (.v (.bool true)))) v := by
  repeat' (first | with_reducible exact trivial | with_reducible exact rfl | with_reducible exact Nat.le_refl _ | with_reducible exact (fun _ _ => rfl) | ((conv => whnf); first | (refine fun (x : CG) => ?_) | (refine fun _ => ?_) | refine ⟨?_, ?_⟩ | exact trivial | exact Nat.le_refl _ | exact lex_q (by kernel_rfl) | exact lex_t (by kernel_rfl) | exact lex_h (by kernel_rfl) | fail))
  all_goals (try dsimp only [cutR, cutL, id] at *)
  all_goals (try simp (disch := omega) only [fdiv_nn, Int.reduceToNat, IntKind.bits, Nat.min_def, Nat.reduceLeDiff, if_true, if_false, Int.reducePow, wu8, wu32, w64', wu64', tdiv_pos, tmod_pos, Int.toNat_natCast, Nat.zero_add] at *)
  all_goals (try omega)
  · rename_i c z h1 h2
    refine Bw.mk (fun r hr => ?_) h1 h1 h2
    have hr : r < 9 := hr
    dsimp only
    rw [if_pos (by omega)]
    rcases (by omega : r = 0 ∨ r = 1 ∨ r = 2 ∨ r = 3 ∨ r = 4 ∨ r = 5 ∨ r = 6 ∨ r = 7 ∨ r = 8) with h | h | h | h | h | h | h | h | h <;> subst h <;> decide
  · symm
    apply decide_eq_true
    rw [← digits_crc]
    exact crcI_congr fun r hr => by rw [if_pos (by omega)]; rfl
noncomputable def headS : PSpec Try.prog := readN fn18 Sig.s0 (fun _ => cx18) (fun _ => some True) (fun _ => .one (.a (.v (.bool true)))) (fun _ => rfl) (fun _ => rfl) (fun _ => rfl) head_runs

end Go.Proofs.Ytiaadplhpkggeaa
