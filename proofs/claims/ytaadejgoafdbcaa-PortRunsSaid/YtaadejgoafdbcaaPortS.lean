/-
  Contracts of functions, and plain facts about them, that a claim of this seat uses.
-/
import Derived.Test.YtaadejgoafdbcaaSx
import Derived.Test.YtaadejgoafdbcaaPortH
import Derived.Test.YtaadejgoafdbcaaPRefB
import Derived.Test.YtaadejgoafdbcaaProg
namespace Go.Proofs.Ytaadejgoafdbcaa
open Go.Sx
set_option linter.unusedVariables false
set_option linter.unusedSimpArgs false
set_option maxRecDepth 100000

/-! PortRuns: what New comes to; the law's gates and the port's. -/
attribute [local irreducible] anyAlt Gw enter chk roomsOK
noncomputable def pnYA (l : GL) (a : A8) : List Alt := [.fam CL (fun y => CS l.len l y) (fun _ => .tup [.a (.ptr 1 0), .a (i_ 0)]) (fun y => [roG l, some ⟨true, .obj 69 (ptP (pn0 l a y)) (boxI ptK)⟩])]
set_option maxHeartbeats 8000000 in
theorem pnY_runs (l : GL) (a : A8) (hl : Gw l ∧ chk l = 0 ∧ roomsOK a) : Runs cxPn Try.f8 (mkArgs 0 [Lens.gl.arg l, Lens.a8.arg a]) (mkMem [Lens.gl.arg l, Lens.a8.arg a]) fun v m => ghosted (pnGs l a) v m fun v m => anyAlt (mkMem [Lens.gl.arg l, Lens.a8.arg a]) (pnRen v) v m (pnYA l a) := by
  obtain ⟨hl, hc, hr⟩ := hl
  repeat' (first | with_reducible exact trivial | with_reducible exact rfl | with_reducible exact Nat.le_refl _ | with_reducible exact (fun _ _ => rfl) | ((conv => whnf); first | (refine fun (x : CL) => ?_) | (refine fun (y : Nat) => ?_) | (exact fun h => absurd h (by decide)) | (intro h9; (have h8 := of_decide_eq_true (p := type_of% h9) (by decide)); clear h8 h9) | (refine fun _ => ?_) | refine ⟨?_, ?_⟩ | exact trivial | exact Nat.le_refl _ | exact lex_q (by kernel_rfl) | exact lex_t (by kernel_rfl) | exact lex_h (by kernel_rfl) | fail))
  all_goals (try exact hl)
  all_goals (try exact hc)
  all_goals (try exact pn_inv (l := l) (a := a) (y := x) hc hl (by assumption))
  all_goals (try exact rfl)
  all_goals (try exact fun _ _ => rfl)
  all_goals (try exact absurd hc (by assumption))
  all_goals (try exact absurd hr (by assumption))
  all_goals (conv => whnf)
  all_goals (refine alt_fam (α := CL) x ?_ (by (repeat' (first | ((conv => whnf); first | refine ⟨?_, ?_⟩ | exact trivial | fail) | (dsimp only; done) | ((try dsimp only); first | with_reducible exact rfl | exact Nat.le_refl _ | with_reducible exact (fun _ _ => rfl)))); all_goals ((first | rfl | exact fun _ _ => rfl | skip)))
             assumption)
noncomputable def pnY : ESpec Try.prog := newG fn8 (.s2 Lens.gl Lens.a8) (fun _ => cxPn) (fun x => some (Gw x.1 ∧ chk x.1 = 0 ∧ roomsOK x.2)) (fun x => pnYA x.1 x.2) (fun x v m => pnGs x.1 x.2 v m) (fun _ v _ => pnRen v) (fun _ => rfl) (fun x al hal => by
  rw [List.mem_singleton.1 hal]; exact fun _ => rfl) (fun x hl => pnY_runs x.1 x.2 hl)
noncomputable def pnZA (l : GL) : List Alt := [.one (.tup [.a (.v (.pointer none)), .a (i_ (chk l))]) [roG l]]
set_option maxHeartbeats 8000000 in
theorem pnZ_runs (l : GL) (a : A8) (hl : Gw l ∧ ¬ chk l = 0) : Runs cxPn Try.f8 (mkArgs 0 [Lens.gl.arg l, Lens.a8.arg a]) (mkMem [Lens.gl.arg l, Lens.a8.arg a]) fun v m => ghosted (pnGs l a) v m fun v m => anyAlt (mkMem [Lens.gl.arg l, Lens.a8.arg a]) (pnRen v) v m (pnZA l) := by
  obtain ⟨hl, hc⟩ := hl
  repeat' (first | with_reducible exact trivial | with_reducible exact rfl | with_reducible exact Nat.le_refl _ | with_reducible exact (fun _ _ => rfl) | ((conv => whnf); first | (refine fun (x : CL) => ?_) | (refine fun (y : Nat) => ?_) | (exact fun h => absurd h (by decide)) | (intro h9; (have h8 := of_decide_eq_true (p := type_of% h9) (by decide)); clear h8 h9) | (refine fun _ => ?_) | refine ⟨?_, ?_⟩ | exact trivial | exact Nat.le_refl _ | exact lex_q (by kernel_rfl) | exact lex_t (by kernel_rfl) | exact lex_h (by kernel_rfl) | fail))
  all_goals (try exact hl)
  all_goals (try exact absurd (by assumption) hc)
  all_goals (try exact absurd hc (by assumption))
  all_goals (conv => whnf)
  all_goals (refine alt_one (by (repeat' (first | with_reducible exact rfl | exact Nat.le_refl _ | with_reducible exact (fun _ _ => rfl) | ((conv => whnf); first | refine ⟨?_, ?_⟩ | exact trivial | fail))); first | ((all_goals ((first | rfl | exact fun _ _ => rfl))); done) | fail))
noncomputable def pnZ : ESpec Try.prog := newG fn8 (.s2 Lens.gl Lens.a8) (fun _ => cxPn) (fun x => some (Gw x.1 ∧ ¬ chk x.1 = 0)) (fun x => pnZA x.1) (fun x v m => pnGs x.1 x.2 v m) (fun _ v _ => pnRen v) (fun _ => rfl) (fun x al hal => by
  rw [List.mem_singleton.1 hal]; rfl) (fun x hl => pnZ_runs x.1 x.2 hl)
/-! lists that say the same -/
def SmG (l m : GL) : Prop := l.base = m.base ∧ l.cyc = m.cyc ∧ l.len = m.len ∧ ∀ i, i < l.len → l.op i = m.op i ∧ l.ln i = m.ln i
theorem sm_rfl (l : GL) : SmG l l := ⟨rfl, rfl, rfl, fun _ _ => ⟨rfl, rfl⟩⟩
theorem sm_cs {m l : GL} (h : SmG m l) (hw : Gw m) : m = ⟨l.base, l.cyc, l.len, m.cap, m.N, m.op, m.ln⟩ ∧ CS l.len l ⟨m.cap, m.op, m.ln⟩ := by
  obtain ⟨h1, h2, h3, h4⟩ := h
  refine ⟨by rw [← h1, ← h2, ← h3], ?_, hw.out.2.2.2.2.1, fun r hr => h4 r (by rw [h3]; exact hr)⟩
  have := hw.out.2.2.1
  show l.len ≤ m.cap
  omega
theorem chk_sm {m l : GL} (h : SmG m l) (hw : Gw m) : chk m = chk l := by
  obtain ⟨h1, h2⟩ := sm_cs h hw
  rw [h1, ← cp_chk h2]
  unfold chk; rfl
theorem st_N {l m : GL} {k o p : Int} (h : ∀ q, gAt l k q = gAt m k q) : ∀ (f n : Nat), stFrom l k o p f n = stFrom m k o p f n
  | 0, _ => rfl
  | f + 1, n => by simp only [stFrom, h]; rw [st_N h f]
theorem left_N (b c : Int) (n k N N' : Nat) (f g : Nat → Int) (a q : Int) : leftV ⟨b, c, n, k, N, f, g⟩ a q = leftV ⟨b, c, n, k, N', f, g⟩ a q := by
  have e1 : chk ⟨b, c, n, k, N, f, g⟩ = chk ⟨b, c, n, k, N', f, g⟩ := by unfold chk; rfl
  have e2 : ∀ p o, stayV ⟨b, c, n, k, N, f, g⟩ p q o = stayV ⟨b, c, n, k, N', f, g⟩ p q o := fun p o => st_N (l := ⟨b, c, n, k, N, f, g⟩) (m := ⟨b, c, n, k, N', f, g⟩) (fun _ => rfl) _ _
  unfold leftV
  rw [e1, e2, show phV ⟨b, c, n, k, N, f, g⟩ a = phV ⟨b, c, n, k, N', f, g⟩ a from rfl]
theorem left_sm {m l : GL} (h : SmG m l) (hw : Gw m) (a k : Int) : leftV m a k = leftV l a k := by
  obtain ⟨h1, h2⟩ := sm_cs h hw
  rw [h1, ← cp_left h2]
  exact left_N _ _ _ _ _ _ _ _ _ _
theorem cp_sm {l : GL} {y : CL} (h : CS l.len l y) : SmG (cp l y) l := ⟨rfl, rfl, rfl, fun i hi => h.out.2.2 i hi⟩
/-- the list that holds, by a gate that need not have looked yet -/
def vL (g : Gs) (now : Int) : GL := if swB g now then g.a else g.l
def vW (g : Gs) (now : Int) : Prop := g.wait = true ∧ ¬ g.fr ≤ now
/-- two gates that do the same from now on -/
def SimG (g h : Gs) (now : Int) : Prop := SmG (vL g now) (vL h now) ∧ (vW g now ↔ vW h now) ∧ (vW g now → g.fr = h.fr ∧ SmG g.a h.a)
theorem vL_sw {g : Gs} {now : Int} (h : swB g now) : vL g now = g.a := if_pos h
theorem vL_no {g : Gs} {now : Int} (h : ¬ swB g now) : vL g now = g.l := if_neg h
theorem vW_no {g : Gs} {now : Int} (h : vW g now) : ¬ swB g now := fun hh => h.2 hh.2
theorem vL_off {g : Gs} {now now' : Int} (hv : ¬ vW g now) (hle : now ≤ now') : vL g now' = vL g now ∧ ¬ vW g now' := by
  by_cases hw : g.wait = true
  · have hf : g.fr ≤ now := Decidable.not_not.1 fun hh => hv ⟨hw, hh⟩
    rw [vL_sw (show swB g now from ⟨hw, hf⟩), vL_sw (show swB g now' from ⟨hw, Int.le_trans hf hle⟩)]
    exact ⟨rfl, fun hh => hh.2 (Int.le_trans hf hle)⟩
  · rw [vL_no (fun hh => hw hh.1), vL_no (fun hh => hw hh.1)]
    exact ⟨rfl, fun hh => hw hh.1⟩
theorem sim_next {g h : Gs} {now now' : Int} (hs : SimG g h now) (hle : now ≤ now') : SimG g h now' := by
  obtain ⟨h1, h2, h3⟩ := hs
  by_cases hv : vW g now
  · have hv2 := h2.1 hv
    obtain ⟨e1, e2⟩ := h3 hv
    by_cases hf : g.fr ≤ now'
    · rw [SimG, vL_sw (show swB g now' from ⟨hv.1, hf⟩), vL_sw (show swB h now' from ⟨hv2.1, e1 ▸ hf⟩)]
      exact ⟨e2, ⟨fun hh => absurd hf hh.2, fun hh => absurd (e1 ▸ hf) hh.2⟩, fun hh => absurd hf hh.2⟩
    · rw [vL_no (vW_no hv), vL_no (vW_no hv2)] at h1
      rw [SimG, vL_no (fun hh => hf hh.2), vL_no (fun hh => hf (e1 ▸ hh.2))]
      exact ⟨h1, ⟨fun _ => ⟨hv2.1, fun hh => hf (e1 ▸ hh)⟩, fun _ => ⟨hv.1, hf⟩⟩, fun _ => ⟨e1, e2⟩⟩
  · have hv2 : ¬ vW h now := fun hh => hv (h2.2 hh)
    obtain ⟨a1, a2⟩ := vL_off hv hle
    obtain ⟨b1, b2⟩ := vL_off hv2 hle
    rw [SimG, a1, b1]
    exact ⟨h1, ⟨fun hh => absurd hh a2, fun hh => absurd hh b2⟩, fun hh => absurd hh a2⟩
/-- the law's turn -/
theorem sim_law {g h : Gs} {now : Int} (hs : SimG g h now) (hw : swB h now) : SimG g ⟨h.a, h.a, h.fr, false⟩ now := by
  obtain ⟨h1, h2, h3⟩ := hs
  have hv : ¬ vW g now := fun hh => vW_no (h2.1 hh) hw
  rw [vL_sw hw] at h1
  rw [SimG, vL_no (g := ⟨h.a, h.a, h.fr, false⟩) (fun hh => (by cases hh.1))]
  exact ⟨h1, ⟨fun hh => absurd hh hv, fun hh => (by cases hh.1)⟩, fun hh => absurd hh hv⟩
theorem sim_at {g h : Gs} {now : Int} (hs : SimG g h now) : SimG (atG g now) h now := by
  by_cases hw : swB g now
  · obtain ⟨h1, h2, h3⟩ := hs
    rw [vL_sw hw] at h1
    rw [atG_sw hw, SimG, vL_no (g := ⟨g.a, glN, 0, false⟩) (fun hh => (by cases hh.1))]
    exact ⟨h1, ⟨fun hh => (by cases hh.1), fun hh => absurd hw (vW_no (h2.2 hh))⟩, fun hh => (by cases hh.1)⟩
  · rw [atG_no hw]; exact hs
theorem at_l (g : Gs) (now : Int) : (atG g now).l = vL g now := by
  by_cases hw : swB g now
  · rw [atG_sw hw, vL_sw hw]
  · rw [atG_no hw, vL_no hw]
theorem lfV_congr {l m : GL} {fr : Int} {w : Bool} {now c : Int} (h : leftV l now c = leftV m now c) : lfV l fr w now c = lfV m fr w now c := by unfold lfV; rw [h]
theorem lfV_off {l m : GL} {fr fr' : Int} {now c : Int} (h : leftV l now c = leftV m now c) : lfV l fr false now c = lfV m fr' false now c := by
  unfold lfV; rw [if_neg (by decide), if_neg (by decide), h]
theorem lf8_eq {l m : GL} {fr fr' : Int} {w w' : Bool} {now : Int} (h : ∀ c, lfV l fr w now c = lfV m fr' w' now c) : lf8 l fr w now = lf8 m fr' w' now := by
  unfold lf8; rw [h 0, h 1, h 2, h 3, h 4, h 5, h 6, h 7]
theorem lfA_sim {g h : Gs} {now : Int} (hs : SimG g h now) (hn : ¬ swB h now) (hg : Gw (vL g now)) : lfA g now = lf8 h.l h.fr h.wait now := by
  obtain ⟨h1, h2, h3⟩ := hs
  rw [vL_no hn] at h1
  have hl := fun c => left_sm h1 hg now c
  unfold lfA
  by_cases hv : vW g now
  · obtain ⟨e1, _⟩ := h3 hv
    rw [vL_no (vW_no hv)] at hl
    rw [atG_no (vW_no hv), e1, hv.1, (h2.1 hv).1]
    exact lf8_eq fun c => lfV_congr (hl c)
  · have hw : h.wait = false := by
      cases hh : h.wait with
      | false => rfl
      | true => exact absurd (h2.2 ⟨hh, fun hf => hn ⟨hh, hf⟩⟩) hv
    have hw2 : (atG g now).wait = false := by
      by_cases hg2 : swB g now
      · rw [atG_sw hg2]
      · rw [atG_no hg2]
        cases hh : g.wait with
        | false => rfl
        | true => exact absurd ⟨hh, fun hf => hg2 ⟨hh, hf⟩⟩ hv
    rw [hw, hw2, at_l]
    exact lf8_eq fun c => lfV_off (hl c)
theorem left_some {l : GL} {a k : Int} (h : chk l = 0 ∧ inR a ∧ gateR k) : leftV l a k = if stayV l (phV l a) k 1 = 2 * l.cyc then 2147483648 else stayV l (phV l a) k 1 := if_pos h
theorem and15 (a : Int) : 0 ≤ bits .and .i64 a 15 ∧ bits .and .i64 a 15 ≤ 15 := by
  have h3 : (BitVec.ofInt 64 a &&& BitVec.ofInt 64 15).toNat = (BitVec.ofInt 64 a).toNat % 16 := by
    rw [BitVec.toNat_and, show (BitVec.ofInt 64 15).toNat = 2 ^ 4 - 1 from rfl, Nat.and_two_pow_sub_one_eq_mod]
  have h2 : bits .and .i64 a 15 = IntKind.i64.wrap ((BitVec.ofInt 64 a &&& BitVec.ofInt 64 15).toNat : Int) := rfl
  rw [h2, h3, w64' (by omega) (by omega)]; omega

end Go.Proofs.Ytaadejgoafdbcaa
