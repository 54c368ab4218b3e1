/-
  Contracts of functions, and plain facts about them, that a claim of this seat uses.
-/
import Derived.Test.YtmhggafgdilgeaaSx
import Derived.Test.YtmhggafgdilgeaaSGatesB
import Derived.Test.YtmhggafgdilgeaaProg
namespace Go.Proofs.Ytmhggafgdilgeaa
open Go.Sx
set_option linter.unusedVariables false
set_option linter.unusedSimpArgs false
set_option maxRecDepth 100000

/-! lists of gates: a copy is as good. -/
structure CL where
  cap : Nat
  op : Nat → Int
  ln : Nat → Int
def CS (n : Nat) (l : GL) (y : CL) : Prop := n ≤ y.cap ∧ y.cap ≤ 9223372036854775807 ∧ ∀ r, r < n → y.op r = l.op r ∧ y.ln r = l.ln r
theorem CS.out {n : Nat} {l : GL} {y : CL} (h : CS n l y) : n ≤ y.cap ∧ y.cap ≤ 9223372036854775807 ∧ ∀ r, r < n → y.op r = l.op r ∧ y.ln r = l.ln r := h
theorem chkFrom_congr {op ln op' ln' : Nat → Int} {cyc : Int} : ∀ {k i : Nat} {s : Int}, (∀ j, i ≤ j → j < i + k → op' j = op j ∧ ln' j = ln j) → chkFrom op' ln' cyc k i s = chkFrom op ln cyc k i s
  | 0, _, _, _ => rfl
  | k + 1, i, s, h => by
    obtain ⟨h1, h2⟩ := h i (Nat.le_refl _) (by omega)
    simp only [chkFrom, h1, h2]
    rw [chkFrom_congr (k := k) (i := i + 1) fun j h3 h4 => h j (by omega) (by omega)]
theorem psum_congr {ln ln' : Nat → Int} {n : Nat} (h : ∀ j, j < n → ln' j = ln j) : ∀ {i : Nat}, i ≤ n → psum ln' i = psum ln i
  | 0, _ => rfl
  | i + 1, hi => by simp only [psum]; rw [psum_congr h (by omega), h i (by omega)]
theorem slFrom_congr {ln ln' : Nat → Int} {n : Nat} {p : Int} (h : ∀ j, j < n → ln' j = ln j) : ∀ {k i : Nat}, i + k ≤ n → slFrom ln' n p k i = slFrom ln n p k i
  | 0, _, _ => rfl
  | k + 1, i, hk => by simp only [slFrom]; rw [psum_congr h (by omega), slFrom_congr h (k := k) (i := i + 1) (by omega)]
/-- the copy -/
def cp (l : GL) (y : CL) : GL := ⟨l.base, l.cyc, l.len, y.cap, y.cap, y.op, y.ln⟩
theorem cp_chk {l : GL} {y : CL} (h : CS l.len l y) : chk (cp l y) = chk l := by
  unfold chk cp
  dsimp only
  rw [chkFrom_congr (op := l.op) (ln := l.ln) fun j _ h2 => h.out.2.2 j (by omega)]
theorem cp_slot {l : GL} {y : CL} (h : CS l.len l y) (p : Int) : slotI (cp l y) p = slotI l p := slFrom_congr (n := l.len) (k := l.len) (fun j hj => (h.out.2.2 j hj).2) (by omega)
theorem cp_state {l : GL} {y : CL} (h : CS l.len l y) (a : Int) : stateV (cp l y) a = stateV l a := by
  unfold stateV
  rw [cp_chk h]
  by_cases h9 : chk l = 0 ∧ inR a
  · have ok := chk_ok h9.1
    have c1 := ok.c1
    have p0 := Int.emod_nonneg (a - l.base) (show l.cyc ≠ 0 by omega)
    have p1 := Int.emod_lt_of_pos (a - l.base) (show 0 < l.cyc by omega)
    obtain ⟨s1, _⟩ := ok.slot (p := phV l a) ⟨p0, p1⟩
    rw [if_pos h9, if_pos h9, cp_slot h, show phV (cp l y) a = phV l a from rfl]
    exact (h.out.2.2 _ s1).1
  · rw [if_neg h9, if_neg h9]
theorem cp_gw {l : GL} {y : CL} (h : CS l.len l y) (hw : Gw l) : Gw (cp l y) := by
  obtain ⟨b, c, _, _, _, h4⟩ := hw.out
  exact Gw.mk ⟨b, c, h.out.1, h.out.1, h.out.2.1, fun i hi => by
    obtain ⟨e1, e2⟩ := h.out.2.2 i hi
    show I64 (y.op i) ∧ I64 (y.ln i)
    rw [e1, e2]; exact h4 i hi⟩

end Go.Proofs.Ytmhggafgdilgeaa
