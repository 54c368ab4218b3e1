/-
  Contracts of functions, and plain facts about them, that a claim of this seat uses.
-/
import Derived.Test.YtaadejgoafdbcaaSx
import Derived.Test.YtaadejgoafdbcaaPGatesNum
import Derived.Test.YtaadejgoafdbcaaProg
namespace Go.Proofs.Ytaadejgoafdbcaa
open Go.Sx
set_option linter.unusedVariables false
set_option linter.unusedSimpArgs false
set_option maxRecDepth 100000

/-! lists of gates: Check, phase, slot. -/
theorem mixed : Try.prog.follows .mixedOrders = true := by kernel_rfl
theorem fn13 : FnOf Try.prog 13 Try.f13 := ⟨Try.func13, rfl, rfl, mixed⟩
theorem fn31 : FnOf Try.prog 31 Try.f31 := ⟨Try.func31, rfl, rfl, mixed⟩
theorem fn39 : FnOf Try.prog 39 Try.f39 := ⟨Try.func39, rfl, rfl, mixed⟩
def C0 : Cx Try.prog := { ps := [], es := [], is := [], n0 := 1, loops := fun _ => none, cuts := fun _ => none }
def glCells (j : Nat) (l : GL) : List SA := [.v (.int .i64 l.base), .v (.int .i64 l.cyc), .slc j 2 0 l.len l.cap]
def G1 (j : Nat) (l : GL) : SV := .one (.agg (glCells j l))
def roG (l : GL) : Option Reg := some ⟨false, .tab l.N [.int .i64 l.op, .int .i64 l.ln]⟩
def Lens.gl : Lens GL where
  sp := .agg [.i .i64, .i .i64, .s [some .i64, some .i64]]
  pat := fun a => match a with | .agg [.i .i64 b, .i .i64 c, .s len cap N [.int .i64 op, .int .i64 ln]] => some ⟨b, c, len, cap, N, op, ln⟩ | _ => none
  arg := fun l => .agg [.i .i64 l.base, .i .i64 l.cyc, .s l.len l.cap l.N [.int .i64 l.op, .int .i64 l.ln]]
  ok := fun a x h => by
    split at h
    · cases h; rfl
    · cases h
def I64 (n : Int) : Prop := -9223372036854775808 ≤ n ∧ n ≤ 9223372036854775807
/-- a list as it may come -/
def Gw (l : GL) : Prop := I64 l.base ∧ I64 l.cyc ∧ l.len ≤ l.cap ∧ l.len ≤ l.N ∧ l.cap ≤ 9223372036854775807 ∧ ∀ i, i < l.len → I64 (l.op i) ∧ I64 (l.ln i)
theorem Gw.out {l : GL} (h : Gw l) : I64 l.base ∧ I64 l.cyc ∧ l.len ≤ l.cap ∧ l.len ≤ l.N ∧ l.cap ≤ 9223372036854775807 ∧ ∀ i, i < l.len → I64 (l.op i) ∧ I64 (l.ln i) := h
theorem Gw.self {l : GL} (h : Gw l) : Gw ⟨l.base, l.cyc, l.len, l.cap, l.N - 0, fun q => l.op (q + 0), fun q => l.ln (q + 0)⟩ := h
theorem Gw.mk {l : GL} (h : I64 l.base ∧ I64 l.cyc ∧ l.len ≤ l.cap ∧ l.len ≤ l.N ∧ l.cap ≤ 9223372036854775807 ∧ ∀ i, i < l.len → I64 (l.op i) ∧ I64 (l.ln i)) : Gw l := h
theorem chk_step {op ln : Nat → Int} {c s : Int} {n i : Nat} (h : i < n) : chkFrom op ln c (n - i) i s = if op i < 0 ∨ 255 < op i ∨ ln i < 1 ∨ 1073741824 < ln i then 1 else if c < s + ln i then 61 else chkFrom op ln c (n - (i + 1)) (i + 1) (s + ln i) := by
  rw [show n - i = (n - (i + 1)) + 1 by omega]; rfl
abbrev laChk (l : GL) : LA where
  ι := Int × Int
  inv := fun y => (0 ≤ y.1 ∧ y.1 ≤ l.len) ∧ (0 ≤ y.2 ∧ y.2 ≤ l.cyc) ∧ chkFrom l.op l.ln l.cyc (l.len - y.1.toNat) y.1.toNat y.2 = chkFrom l.op l.ln l.cyc l.len 0 0
  T := fun y => ⟨70, [(1, .one (.a (.ptr 1 0))), (3, int_ .i64 y.2), (37, .one (.a (.slc 0 2 0 l.len l.cap))), (38, int_ .i64 l.len), (39, int_ .i64 y.1)], [roG l, some ⟨true, .flat (glCells 0 l)⟩]⟩
  μ := fun y => (l.len - y.1).toNat
  ren := fun S => [0, S.ix 1]
noncomputable def cxChk (l : GL) : Cx Try.prog := { ps := [], es := [], is := [], n0 := 1, loops := fun i => match i with | 7 => some (.inv (laChk l)) | _ => none, cuts := fun _ => none }
attribute [local irreducible] enter anyAlt Gw
set_option maxHeartbeats 8000000 in
theorem chk_runs (l : GL) (hp : obp (some (Gw l))) : Runs (cxChk l) Try.f13 [G1 0 l] [roG l] fun v _ => isRes (int_ .i64 (chk l)) v := by
  have hw : Gw l := hp
  obtain ⟨hb, hc, h1, h2, h3, h4⟩ := hw.out
  unfold I64 at *
  repeat' (first | with_reducible exact trivial | with_reducible exact rfl | with_reducible exact Nat.le_refl _ | with_reducible exact (fun _ _ => rfl) | ((conv => whnf); first | (refine fun (x : Int × Int) => ?_) | (refine fun _ => ?_) | refine ⟨?_, ?_⟩ | exact trivial | exact Nat.le_refl _ | exact lex_q (by kernel_rfl) | exact lex_t (by kernel_rfl) | exact lex_h (by kernel_rfl) | fail))
  any_goals (refine enter_mk (la := laChk l) (_, _) ?_ (by (repeat' (first | ((conv => whnf); first | refine ⟨?_, ?_⟩ | exact trivial | fail) | (dsimp only; done) | ((try dsimp only); first | with_reducible exact rfl | exact Nat.le_refl _ | with_reducible exact (fun _ _ => rfl)))); first | ((all_goals ((try dsimp only [laChk] at *); (all_goals (try simp (disch := omega) only [w64', wu64', tdiv_pos, tmod_pos, Int.toNat_natCast, Nat.zero_add] at *)); (all_goals ((try omega))))); done) | fail))
  all_goals (try dsimp only [laChk] at *)
  all_goals (try simp (disch := omega) only [fdiv_nn, Int.reduceToNat, IntKind.bits, Nat.min_def, Nat.reduceLeDiff, if_true, if_false, Int.reducePow, wu8, wu32, w64', wu64', tdiv_pos, tmod_pos, Int.toNat_natCast, Nat.zero_add] at *)
  all_goals (try omega)
  all_goals first
    | (unfold chk; rw [if_pos (by omega)]; done)
    | (unfold chk; rw [if_neg (by omega), if_pos (by omega)]; done)
    | exact ⟨by omega, by omega, rfl⟩
    | (have hx := (by assumption : (0 ≤ x.1 ∧ _) ∧ _)
       obtain ⟨i1, i2, i3⟩ := hx
       have hch : chk l = chkFrom l.op l.ln l.cyc l.len 0 0 := by unfold chk; rw [if_neg (by omega), if_neg (by omega)]
       first
       | (rw [hch, ← i3, show l.len - x.1.toNat = 0 by omega]; rfl)
       | (have hs := h4 x.1.toNat (by omega)
          rw [chk_step (by omega)] at i3
          first
          | (rw [if_pos (by omega)] at i3
             rw [hch]; exact i3.symm)
          | (rw [if_neg (by omega)] at i3
             rw [w64' (by omega) (by omega)] at *
             first
             | (rw [if_pos (by omega)] at i3
                rw [hch]; exact i3.symm)
             | (rw [if_neg (by omega)] at i3
                rw [show (x.1 + 1).toNat = x.1.toNat + 1 by omega]
                exact ⟨by omega, by omega, i3⟩))))
noncomputable def chkS : PSpec Try.prog := readN fn13 (.s1 Lens.gl) cxChk (fun l => some (Gw l)) (fun l => int_ .i64 (chk l)) (fun _ => rfl) (fun _ => rfl) (fun _ => rfl) chk_runs
/-- times that may be asked for -/
def Tm (n : Int) : Prop := -1099511627776 ≤ n ∧ n ≤ 2199023255552
theorem tm_at {s g : Int} (hg : 0 < g) : (0 ≤ Int.tmod s g ∧ Int.tmod s g = s % g) ∨ (Int.tmod s g < 0 ∧ Int.tmod s g + g = s % g) := by
  have h1 := Int.mul_tdiv_add_tmod s g
  have h2 := Int.tmod_lt_of_pos s hg
  have h3 := Int.lt_tmod_of_pos s hg
  generalize Int.tmod s g = t at *
  generalize Int.tdiv s g = q at *
  by_cases h : 0 ≤ t
  · exact .inl ⟨h, ((Int.ediv_emod_unique (a := s) (r := t) (q := q) hg).2 ⟨by omega, h, h2⟩).2.symm⟩
  · refine .inr ⟨by omega, ((Int.ediv_emod_unique (a := s) (r := t + g) (q := q - 1) hg).2 ⟨by rw [Int.mul_sub]; omega, by omega, by omega⟩).2.symm⟩
set_option maxHeartbeats 8000000 in
theorem ph_runs (x : GL × Int) (hp : obp (some (Gw x.1 ∧ chk x.1 = 0 ∧ Tm x.2))) : Runs C0 Try.f31 [G1 0 x.1, int_ .i64 x.2] [roG x.1] fun v _ => isRes (int_ .i64 (phV x.1 x.2)) v := by
  obtain ⟨l, a⟩ := x
  obtain ⟨hw, ho, ht⟩ : Gw l ∧ chk l = 0 ∧ Tm a := hp
  have ok := chk_ok ho
  obtain ⟨o1, o2, o3, o4, o5, o6⟩ : _ ∧ _ ∧ _ ∧ _ ∧ _ ∧ _ := ⟨ok.n1, ok.n2, ok.c1, ok.c2, ok.b1, ok.b2⟩
  unfold Tm at ht
  have tt := tm_at (s := a - l.base) (g := l.cyc) (by omega)
  have e1 := Int.emod_nonneg (a - l.base) (show l.cyc ≠ 0 by omega)
  have e2 := Int.emod_lt_of_pos (a - l.base) (show 0 < l.cyc by omega)
  have e3 := Int.tmod_lt_of_pos (a - l.base) (show 0 < l.cyc by omega)
  have e4 := Int.lt_tmod_of_pos (a - l.base) (show 0 < l.cyc by omega)
  have e5 : phV l a = (a - l.base) % l.cyc := rfl
  repeat' (first | with_reducible exact trivial | with_reducible exact rfl | with_reducible exact Nat.le_refl _ | with_reducible exact (fun _ _ => rfl) | ((conv => whnf); first | (refine fun _ => ?_) | refine ⟨?_, ?_⟩ | exact trivial | exact Nat.le_refl _ | exact lex_q (by kernel_rfl) | exact lex_t (by kernel_rfl) | exact lex_h (by kernel_rfl) | fail))
  all_goals (try dsimp only at *)
  all_goals (try simp (disch := omega) only [fdiv_nn, Int.reduceToNat, IntKind.bits, Nat.min_def, Nat.reduceLeDiff, if_true, if_false, Int.reducePow, wu8, wu32, w64', wu64', tdiv_pos, tmod_pos, Int.toNat_natCast, Nat.zero_add] at *)
  all_goals (try omega)
noncomputable def phS : PSpec Try.prog := readN fn31 (.s2 Lens.gl (.int .i64)) (fun _ => C0) (fun x => some (Gw x.1 ∧ chk x.1 = 0 ∧ Tm x.2)) (fun x => int_ .i64 (phV x.1 x.2)) (fun _ => rfl) (fun _ => rfl) (fun _ => rfl) ph_runs
def nn (x e : Int) : SV := .tup [.a (.v (.int .i64 x)), .a (.v (.int .i64 e))]
abbrev laSlot (l : GL) (p : Int) : LA where
  ι := Int × Int
  inv := fun y => (0 ≤ y.1 ∧ y.1 ≤ l.len) ∧ y.2 = psum l.ln y.1.toNat ∧ slFrom l.ln l.len p (l.len - y.1.toNat) y.1.toNat = slotI l p
  T := fun y => ⟨42, [(1, int_ .i64 p), (2, .one (.a (.ptr 1 0))), (6, int_ .i64 y.2), (10, .one (.a (.slc 0 2 0 l.len l.cap))), (11, int_ .i64 l.len), (12, int_ .i64 y.1)], [roG l, some ⟨true, .flat (glCells 0 l)⟩]⟩
  μ := fun y => (l.len - y.1).toNat
  ren := fun S => [0, S.ix 2]
noncomputable def cxSlot (l : GL) (p : Int) : Cx Try.prog := { ps := [], es := [], is := [], n0 := 1, loops := fun i => match i with | 3 => some (.inv (laSlot l p)) | _ => none, cuts := fun _ => none }
theorem sl_step {ln : Nat → Int} {p : Int} {n i : Nat} (h : i < n) : slFrom ln n p (n - i) i = if p < psum ln (i + 1) then i else slFrom ln n p (n - (i + 1)) (i + 1) := by
  rw [show n - i = (n - (i + 1)) + 1 by omega]; rfl
set_option maxHeartbeats 8000000 in
theorem slot_runs (x : GL × Int) (hp : obp (some (Gw x.1 ∧ chk x.1 = 0))) : Runs (cxSlot x.1 x.2) Try.f39 [G1 0 x.1, int_ .i64 x.2] [roG x.1] fun v _ => isRes (nn (slotI x.1 x.2 : Nat) (endE x.1 (slotI x.1 x.2))) v := by
  obtain ⟨l, p⟩ := x
  obtain ⟨hw, ho⟩ : Gw l ∧ chk l = 0 := hp
  have ok := chk_ok ho
  obtain ⟨o1, o2, o3, o4, o5, o6⟩ : _ ∧ _ ∧ _ ∧ _ ∧ _ ∧ _ := ⟨ok.n1, ok.n2, ok.c1, ok.c2, ok.b1, ok.b2⟩
  obtain ⟨_, _, h1, h2, h3, h4⟩ := hw.out
  repeat' (first | with_reducible exact trivial | with_reducible exact rfl | with_reducible exact Nat.le_refl _ | with_reducible exact (fun _ _ => rfl) | ((conv => whnf); first | (refine fun (x : Int × Int) => ?_) | (refine fun _ => ?_) | refine ⟨?_, ?_⟩ | exact trivial | exact Nat.le_refl _ | exact lex_q (by kernel_rfl) | exact lex_t (by kernel_rfl) | exact lex_h (by kernel_rfl) | fail))
  any_goals (refine enter_mk (la := laSlot l p) (_, _) ?_ (by (repeat' (first | ((conv => whnf); first | refine ⟨?_, ?_⟩ | exact trivial | fail) | (dsimp only; done) | ((try dsimp only); first | with_reducible exact rfl | exact Nat.le_refl _ | with_reducible exact (fun _ _ => rfl)))); first | ((all_goals ((try dsimp only [laSlot] at *); (all_goals (try simp (disch := omega) only [w64', wu64', tdiv_pos, tmod_pos, Int.toNat_natCast, Nat.zero_add] at *)); (all_goals ((try omega))))); done) | fail))
  all_goals (try dsimp only [laSlot] at *)
  all_goals (try simp (disch := omega) only [fdiv_nn, Int.reduceToNat, IntKind.bits, Nat.min_def, Nat.reduceLeDiff, if_true, if_false, Int.reducePow, wu8, wu32, w64', wu64', tdiv_pos, tmod_pos, Int.toNat_natCast, Nat.zero_add] at *)
  all_goals (try omega)
  all_goals first
    | exact ⟨by omega, rfl, rfl⟩
    | (have hx := (by assumption : (0 ≤ x.1 ∧ _) ∧ _)
       obtain ⟨i1, i2, i3⟩ := hx
       first
       | (rw [show l.len - x.1.toNat = 0 by omega] at i3
          have i4 : l.len - 1 = slotI l p := i3
          first
          | (rw [← i4]; omega)
          | (rw [← i4]; unfold endE; rw [if_pos rfl]))
       | (have hi : x.1.toNat < l.len := by omega
          have hl := ok.ln x.1.toNat hi
          have hs := ok.sum (x.1.toNat + 1) hi
          have hp1 := psum_le ok.ln (i := 0) (j := x.1.toNat) (by omega) (by omega)
          have hz : psum l.ln 0 = 0 := rfl
          have e1 : psum l.ln (x.1.toNat + 1) = x.2 + l.ln x.1.toNat := by rw [i2]; rfl
          rw [w64' (n := x.2 + l.ln x.1.toNat) (by omega) (by omega)] at *
          rw [sl_step hi] at i3
          first
          | (rw [if_pos (by omega)] at i3
             rw [← i3]
             first
             | omega
             | (unfold endE; rw [if_pos (by omega)]; done)
             | (unfold endE; rw [if_neg (by omega), e1]; done))
          | (rw [if_neg (by omega)] at i3
             rw [show (x.1 + 1).toNat = x.1.toNat + 1 by omega]
             exact ⟨by omega, e1.symm, i3⟩)))
noncomputable def slotS : PSpec Try.prog := readN fn39 (.s2 Lens.gl (.int .i64)) (fun x => cxSlot x.1 x.2) (fun x => some (Gw x.1 ∧ chk x.1 = 0)) (fun x => nn (slotI x.1 x.2 : Nat) (endE x.1 (slotI x.1 x.2))) (fun _ => rfl) (fun _ => rfl) (fun _ => rfl) slot_runs

end Go.Proofs.Ytaadejgoafdbcaa
