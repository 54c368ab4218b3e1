/-
  Contracts of functions, and plain facts about them, that a claim of this seat uses.
-/
import Derived.Test.YtkehcpafbkmapaaSx
import Derived.Test.YtkehcpafbkmapaaGatesNum
import Derived.Test.YtkehcpafbkmapaaGatesA
import Derived.Test.YtkehcpafbkmapaaGatesB
import Derived.Test.YtkehcpafbkmapaaGatesP
import Derived.Test.YtkehcpafbkmapaaGatesQ
import Derived.Test.YtkehcpafbkmapaaProg
namespace Go.Proofs.Ytkehcpafbkmapaa
open Go.Sx
set_option linter.unusedVariables false
set_option linter.unusedSimpArgs false
set_option maxRecDepth 100000

/-! lists of gates: a copy is as good. -/
theorem chkFrom_congr {op ln op' ln' : Nat → Int} {cyc : Int} : ∀ {k i : Nat} {s : Int}, (∀ j, i ≤ j → j < i + k → op' j = op j ∧ ln' j = ln j) → chkFrom op' ln' cyc k i s = chkFrom op ln cyc k i s
  | 0, _, _, _ => rfl
  | k + 1, i, s, h => by
    obtain ⟨h1, h2⟩ := h i (Nat.le_refl _) (by omega)
    simp only [chkFrom, h1, h2]
    rw [chkFrom_congr (k := k) (i := i + 1) fun j h3 h4 => h j (by omega) (by omega)]
theorem psum_congr {ln ln' : Nat → Int} {n : Nat} (h : ∀ j, j < n → ln' j = ln j) : ∀ {i : Nat}, i ≤ n → psum ln' i = psum ln i
  | 0, _ => rfl
  | i + 1, hi => by simp only [psum]; rw [psum_congr h (by omega), h i (by omega)]
theorem slFrom_congr {ln ln' : Nat → Int} {n : Nat} {p : Int} (h : ∀ j, j < n → ln' j = ln j) : ∀ {k i : Nat}, i + k ≤ n → slFrom ln' n p k i = slFrom ln n p k i
  | 0, _, _ => rfl
  | k + 1, i, hk => by simp only [slFrom]; rw [psum_congr h (by omega), slFrom_congr h (k := k) (i := i + 1) (by omega)]
/-- the copy -/
def cp (l : GL) (y : CL) : GL := ⟨l.base, l.cyc, l.len, y.cap, y.cap, y.op, y.ln⟩
theorem cp_chk {l : GL} {y : CL} (h : CS l.len l y) : chk (cp l y) = chk l := by
  unfold chk cp
  dsimp only
  rw [chkFrom_congr (op := l.op) (ln := l.ln) fun j _ h2 => h.out.2.2 j (by omega)]
theorem cp_slot {l : GL} {y : CL} (h : CS l.len l y) (p : Int) : slotI (cp l y) p = slotI l p := slFrom_congr (n := l.len) (k := l.len) (fun j hj => (h.out.2.2 j hj).2) (by omega)
theorem cp_gAt {l : GL} {y : CL} (h : CS l.len l y) (ok : GOk l) (k q : Int) : gAt (cp l y) k q = gAt l k q := by
  have c1 := ok.c1
  have p0 := Int.emod_nonneg q (show l.cyc ≠ 0 by omega)
  have p1 := Int.emod_lt_of_pos q (show 0 < l.cyc by omega)
  obtain ⟨s1, _⟩ := ok.slot ⟨p0, p1⟩
  unfold gAt
  rw [cp_slot h, show (cp l y).cyc = l.cyc from rfl, show (cp l y).op (slotI l (q % l.cyc)) = l.op (slotI l (q % l.cyc)) from (h.out.2.2 _ s1).1]
theorem cp_stay {l : GL} {y : CL} (h : CS l.len l y) (ok : GOk l) (p k o : Int) : stayV (cp l y) p k o = stayV l p k o := by
  have c1 := ok.c1
  have i := stay_is (l := l) (p := p) (k := k) (o := o) (by omega)
  exact IsStay.val (l := cp l y) ⟨i.lo, i.hi, fun j h1 h2 => by rw [cp_gAt h ok]; exact i.all j h1 h2, fun h9 => by rw [cp_gAt h ok]; exact i.end_ h9⟩ (by show 0 ≤ l.cyc; omega)
theorem cp_state {l : GL} {y : CL} (h : CS l.len l y) (a : Int) : stateV (cp l y) a = stateV l a := by
  unfold stateV
  rw [cp_chk h]
  by_cases h9 : chk l = 0 ∧ inR a
  · have ok := chk_ok h9.1
    have c1 := ok.c1
    have p0 := Int.emod_nonneg (a - l.base) (show l.cyc ≠ 0 by omega)
    have p1 := Int.emod_lt_of_pos (a - l.base) (show 0 < l.cyc by omega)
    obtain ⟨s1, _⟩ := ok.slot (p := phV l a) ⟨p0, p1⟩
    rw [if_pos h9, if_pos h9, cp_slot h, show phV (cp l y) a = phV l a from rfl]
    exact (h.out.2.2 _ s1).1
  · rw [if_neg h9, if_neg h9]
theorem cp_gw {l : GL} {y : CL} (h : CS l.len l y) (hw : Gw l) : Gw (cp l y) := by
  obtain ⟨b, c, _, _, _, h4⟩ := hw.out
  exact Gw.mk ⟨b, c, h.out.1, h.out.1, h.out.2.1, fun i hi => by
    obtain ⟨e1, e2⟩ := h.out.2.2 i hi
    show I64 (y.op i) ∧ I64 (y.ln i)
    rw [e1, e2]; exact h4 i hi⟩
theorem cp_self (l : GL) (y : CL) : (⟨l.base, l.cyc, l.len, y.cap, y.cap - 0, fun q => y.op (q + 0), fun q => y.ln (q + 0)⟩ : GL) = cp l y := rfl
/-- the copy of none -/
def c0 (l : GL) : GL := ⟨l.base, l.cyc, 0, 0, 0, fun _ => 0, fun _ => 0⟩
theorem c0_self (l : GL) : (⟨l.base, l.cyc, 0, 0, 0, fun _ => 0, fun _ => 0⟩ : GL) = c0 l := rfl
theorem c0_gw {l : GL} (hw : Gw l) : Gw (c0 l) := by
  obtain ⟨b, c, _, _, _, h4⟩ := hw.out
  exact Gw.mk ⟨b, c, Nat.le_refl _, Nat.le_refl _, Nat.zero_le _, fun i hi => absurd hi (Nat.not_lt_zero i)⟩
theorem c0_chk {l : GL} : chk (c0 l) = 1 := by
  unfold chk c0
  rw [if_neg (show ¬ 64 < 0 by decide), if_pos (Or.inl rfl)]
theorem chk_nil {l : GL} (h : l.len = 0) : chk l = 1 := by
  unfold chk
  rw [if_neg (by omega), if_pos (Or.inl h)]
theorem cpc {l : GL} {y : CL} (h : l.len ≠ 0 ∧ CS l.len l y) : chk (cp l y) = chk l := cp_chk h.2
theorem cpp {l : GL} {y : CL} {a : Int} : phV (cp l y) a = phV l a := rfl
theorem cpy {l : GL} {y : CL} (h : l.len ≠ 0 ∧ CS l.len l y) (h0 : chk l = 0) {p k o : Int} : stayV (cp l y) p k o = stayV l p k o := cp_stay h.2 (chk_ok h0) _ _ _
theorem cpst {l : GL} {y : CL} (h : l.len ≠ 0 ∧ CS l.len l y) {a : Int} : stateV (cp l y) a = stateV l a := cp_state h.2 a
theorem cpg {l : GL} {y : CL} (h : l.len ≠ 0 ∧ CS l.len l y) (hw : Gw l) : Gw (cp l y) := cp_gw h.2 hw
theorem inr_t {a : Int} (h : (!decide (inR a)) = false) : inR a := by
  by_cases h9 : inR a
  · exact h9
  · rw [decide_eq_false h9] at h; cases h
theorem inr_f {a : Int} (h : (!decide (inR a)) = true) : ¬ inR a := fun h9 => by rw [decide_eq_true h9] at h; cases h
theorem left_none {l : GL} {a k : Int} (h : ¬ (chk l = 0 ∧ inR a ∧ gateR k)) : true = decide (leftV l a k = 0) := by
  symm; apply decide_eq_true
  unfold leftV; rw [if_neg h]
theorem left_some {l : GL} {a k : Int} (h : chk l = 0 ∧ inR a ∧ gateR k) : leftV l a k = if stayV l (phV l a) k 1 = 2 * l.cyc then 2147483648 else stayV l (phV l a) k 1 := if_pos h
theorem next_none {l : GL} {a k : Int} (h : ¬ (chk l = 0 ∧ inR a ∧ gateR k)) : nextV l a k = 0 ∧ nextB l a k = false := by
  unfold nextV nextB
  rw [if_neg (fun h9 => h ⟨h9.1, h9.2.1, h9.2.2.1⟩)]
  exact ⟨rfl, decide_eq_false fun h9 => h ⟨h9.1, h9.2.1, h9.2.2.1⟩⟩
theorem next_some {l : GL} {a k : Int} (h : chk l = 0 ∧ inR a ∧ gateR k) : (nextV l a k = if stayV l (phV l a) k 0 ≠ 2 * l.cyc then stayV l (phV l a) k 0 else 0) ∧ nextB l a k = decide (stayV l (phV l a) k 0 ≠ 2 * l.cyc) := by
  unfold nextV nextB
  refine ⟨?_, ?_⟩
  · by_cases h9 : stayV l (phV l a) k 0 ≠ 2 * l.cyc
    · rw [if_pos ⟨h.1, h.2.1, h.2.2, h9⟩, if_pos h9]
    · rw [if_neg (fun h8 => h9 h8.2.2.2), if_neg h9]
  · rw [decide_eq_decide]
    exact ⟨fun h8 => h8.2.2.2, fun h8 => ⟨h.1, h.2.1, h.2.2, h8⟩⟩

end Go.Proofs.Ytkehcpafbkmapaa
