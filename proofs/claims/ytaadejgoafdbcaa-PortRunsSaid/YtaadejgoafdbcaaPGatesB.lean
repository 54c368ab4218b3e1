/-
  Contracts of functions, and plain facts about them, that a claim of this seat uses.
-/
import Derived.Test.YtaadejgoafdbcaaSx
import Derived.Test.YtaadejgoafdbcaaPGatesNum
import Derived.Test.YtaadejgoafdbcaaPGatesA
import Derived.Test.YtaadejgoafdbcaaProg
namespace Go.Proofs.Ytaadejgoafdbcaa
open Go.Sx
set_option linter.unusedVariables false
set_option linter.unusedSimpArgs false
set_option maxRecDepth 100000

/-! lists of gates: State, stay, Left, Next, Turn. -/
theorem fn30 : FnOf Try.prog 30 Try.f30 := ⟨Try.func30, rfl, rfl, mixed⟩
theorem fn12 : FnOf Try.prog 12 Try.f12 := ⟨Try.func12, rfl, rfl, mixed⟩
theorem fn16 : FnOf Try.prog 16 Try.f16 := ⟨Try.func16, rfl, rfl, mixed⟩
theorem fn40 : FnOf Try.prog 40 Try.f40 := ⟨Try.func40, rfl, rfl, mixed⟩
attribute [local irreducible] enter anyAlt Gw
theorem gl_self (l : GL) : (⟨l.base, l.cyc, l.len, l.cap, l.N - 0, fun q => l.op (q + 0), fun q => l.ln (q + 0)⟩ : GL) = l := rfl
noncomputable def cxState : Cx Try.prog := { ps := [chkS, phS, slotS], es := [], is := [], n0 := 1, loops := fun _ => none, cuts := fun _ => none }
theorem gbit {o k : Int} (ho : 0 ≤ o ∧ o ≤ 255) (hk : 0 ≤ k ∧ k ≤ 7) : bits .and .i64 (o.fdiv (2 ^ (if k.toNat ≤ 64 then k.toNat else 64))) 1 = o / 2 ^ k.toNat % 2 := by
  rw [if_pos (by omega), Int.fdiv_eq_ediv_of_nonneg _ (by exact Int.le_of_lt (Int.pow_pos (by decide)))]
  have h2 : (2 : Int) ^ k.toNat = ((2 ^ k.toNat : Nat) : Int) := by simp
  have h3 : o / 2 ^ k.toNat = ((o.toNat / 2 ^ k.toNat : Nat) : Int) := by rw [h2, Int.natCast_ediv, Int.toNat_of_nonneg ho.1]
  have h4 : o.toNat / 2 ^ k.toNat ≤ o.toNat := Nat.div_le_self _ _
  rw [h3]
  generalize o.toNat / 2 ^ k.toNat = q at *
  have h5 : (BitVec.ofInt 64 (q : Int) &&& BitVec.ofInt 64 1).toNat = q % 2 := by
    rw [BitVec.toNat_and, show (BitVec.ofInt 64 1).toNat = 1 from rfl, Nat.and_one_is_mod, BitVec.toNat_ofInt]; omega
  show IntKind.i64.wrap ((BitVec.ofInt 64 (q : Int) &&& BitVec.ofInt 64 1).toNat : Int) = _
  rw [h5, w64' (by omega) (by omega)]; omega
abbrev laStay (l : GL) (p k o : Int) : LA where
  ι := Int × Int
  inv := fun y => (0 ≤ y.1 ∧ y.1 ≤ 3 * l.cyc) ∧ y.2 = (p + y.1) % l.cyc ∧ ∀ j, 0 ≤ j → j < y.1 → gAt l k (p + j) = o
  T := fun y => ⟨48, [(1, int_ .i64 y.2), (2, int_ .i64 k), (3, int_ .i64 o), (4, .one (.a (.ptr 1 0))), (9, int_ .i64 y.1)], [roG l, some ⟨true, .flat (glCells 0 l)⟩]⟩
  μ := fun y => (2 * l.cyc - y.1).toNat
  ren := fun S => [0, S.ix 4]
noncomputable def cxStay (l : GL) (p k o : Int) : Cx Try.prog := { ps := [slotS], es := [], is := [], n0 := 1, loops := fun i => match i with | 2 => some (.inv (laStay l p k o)) | _ => none, cuts := fun _ => none }
theorem stay_meas {l : GL} {p k o : Int} (ok : GOk l) {x : Int × Int} (hx : (0 ≤ x.1 ∧ x.1 ≤ 3 * l.cyc) ∧ x.2 = (p + x.1) % l.cyc ∧ ∀ j, 0 ≤ j → j < x.1 → gAt l k (p + j) = o) (h : x.1 < 2 * l.cyc) :
    (2 * l.cyc - IntKind.i64.wrap (x.1 + IntKind.i64.wrap (endE l (slotI l x.2) - x.2))).toNat < (2 * l.cyc - x.1).toNat := by
  obtain ⟨i1, i2, i3⟩ := hx
  have c1 := ok.c1
  have c2 := ok.c2
  have p0 : 0 ≤ x.2 := by rw [i2]; exact Int.emod_nonneg _ (by omega)
  have p1 : x.2 < l.cyc := by rw [i2]; exact Int.emod_lt_of_pos _ (by omega)
  obtain ⟨s1, s2, s3, s4⟩ := ok.slot (p := x.2) ⟨p0, p1⟩
  rw [w64' (n := endE l (slotI l x.2) - x.2) (by omega) (by omega), w64' (by omega) (by omega)]
  omega
set_option maxHeartbeats 8000000 in
theorem stay_runs (x : GL × Int × Int × Int) (hp : obp (some (Gw x.1 ∧ chk x.1 = 0 ∧ (0 ≤ x.2.1 ∧ x.2.1 < x.1.cyc) ∧ gateR x.2.2.1))) : Runs (cxStay x.1 x.2.1 x.2.2.1 x.2.2.2) Try.f30 [G1 0 x.1, int_ .i64 x.2.1, int_ .i64 x.2.2.1, int_ .i64 x.2.2.2] [roG x.1] fun v _ => isRes (int_ .i64 (stayV x.1 x.2.1 x.2.2.1 x.2.2.2)) v := by
  obtain ⟨l, p, k, o⟩ := x
  obtain ⟨hw, ho, hpc, hk⟩ : Gw l ∧ chk l = 0 ∧ (0 ≤ p ∧ p < l.cyc) ∧ gateR k := hp
  have hs := hw.self
  have ok := chk_ok ho
  obtain ⟨o1, o2, o3, o4, o5, o6⟩ : _ ∧ _ ∧ _ ∧ _ ∧ _ ∧ _ := ⟨ok.n1, ok.n2, ok.c1, ok.c2, ok.b1, ok.b2⟩
  obtain ⟨_, _, h1, h2, h3, h4⟩ := hw.out
  unfold gateR at hk
  repeat' (first | with_reducible exact trivial | with_reducible exact rfl | with_reducible exact Nat.le_refl _ | with_reducible exact (fun _ _ => rfl) | ((conv => whnf); first | (refine fun (x : Int × Int) => ?_) | (refine fun _ => ?_) | refine ⟨?_, ?_⟩ | exact trivial | exact Nat.le_refl _ | exact lex_q (by kernel_rfl) | exact lex_t (by kernel_rfl) | exact lex_h (by kernel_rfl) | fail))
  any_goals (refine enter_mk (la := laStay l p k o) (_, _) ?_ (by (repeat' (first | ((conv => whnf); first | refine ⟨?_, ?_⟩ | exact trivial | fail) | (dsimp only; done) | ((try dsimp only); first | with_reducible exact rfl | exact Nat.le_refl _ | with_reducible exact (fun _ _ => rfl)))); first | ((all_goals ((try dsimp only [laStay] at *); (all_goals (try simp (disch := omega) only [w64', wu64', tdiv_pos, tmod_pos, Int.toNat_natCast, Nat.zero_add] at *)); (all_goals ((first | omega | (refine stay_meas (p := p) (k := k) (o := o) (x := x) ok ?_ ?_ <;> assumption) | skip))))); done) | fail))
  all_goals (try dsimp only [laStay] at *)
  all_goals (try simp only [gl_self] at *)
  all_goals (try simp (disch := omega) only [fdiv_nn, Int.reduceToNat, IntKind.bits, Nat.min_def, Nat.reduceLeDiff, if_true, if_false, Int.reducePow, wu8, wu32, w64', wu64', tdiv_pos, tmod_pos, Int.toNat_natCast, Nat.zero_add] at *)
  all_goals (try omega)
  all_goals first
    | exact ⟨by omega, by rw [Int.add_zero, Int.emod_eq_of_lt hpc.1 hpc.2], fun j h5 h6 => absurd h6 (by omega)⟩
    | (have hx := (by assumption : (0 ≤ x.1 ∧ _) ∧ _)
       obtain ⟨i1, i2, i3⟩ := hx
       have p0 : 0 ≤ x.2 := by rw [i2]; exact Int.emod_nonneg _ (by omega)
       have p1 : x.2 < l.cyc := by rw [i2]; exact Int.emod_lt_of_pos _ (by omega)
       obtain ⟨s1, s2, s3, s4⟩ := ok.slot (p := x.2) ⟨p0, p1⟩
       have gb := gbit (ok.op _ s1) hk
       have ga : gAt l k (p + x.1) = l.op (slotI l x.2) / 2 ^ k.toNat % 2 := by unfold gAt; rw [← i2]
       have em := Int.mul_ediv_add_emod (p + x.1) l.cyc
       rw [← i2] at em
       first
       | omega
       | (have hn : ¬ x.1 < 2 * l.cyc := by assumption
          have iv : IsStay l p k o (2 * l.cyc) := ⟨by omega, by omega, fun j h5 h6 => i3 j h5 (by omega), fun h9 => absurd h9 (by omega)⟩
          rw [iv.val (by omega)]
          split <;> omega)
       | (have hn := (by assumption : ¬ bits .and .i64 _ 1 = o)
          rw [gb, ← ga] at hn
          have iv : IsStay l p k o x.1 := ⟨by omega, by omega, i3, fun _ => hn⟩
          rw [iv.val (by omega), if_neg (by omega)])
       | (rw [w64' (n := endE l (slotI l x.2) - x.2) (by omega) (by omega), w64' (by omega) (by omega)]
          omega)
       | (have hn := (by assumption : ¬ ¬ bits .and .i64 _ 1 = o)
          rw [gb, ← ga] at hn
          have hn := Decidable.not_not.1 hn
          rw [w64' (n := endE l (slotI l x.2) - x.2) (by omega) (by omega), w64' (n := x.1 + (endE l (slotI l x.2) - x.2)) (by omega) (by omega)]
          have eq : p + (x.1 + (endE l (slotI l x.2) - x.2)) = endE l (slotI l x.2) + l.cyc * ((p + x.1) / l.cyc) := by omega
          refine ⟨by omega, ?_, fun j h5 h6 => ?_⟩
          · rw [eq, Int.add_mul_emod_self_left]
            first | rfl | (rw [tmod_pos (by omega)])
          · rcases Int.lt_or_le j x.1 with h7 | h7
            · exact i3 j h5 h7
            · have e2 : p + j = (x.2 + (j - x.1)) + l.cyc * ((p + x.1) / l.cyc) := by omega
              rw [gAt_mod (r := x.2 + (j - x.1)) (by rw [e2, Int.add_mul_emod_self_left]), ok.run ⟨p0, p1⟩ (by omega) (by omega), ← ga]
              exact hn))
noncomputable def stayS : PSpec Try.prog := readN fn30 (.s4 Lens.gl (.int .i64) (.int .i64) (.int .i64)) (fun x => cxStay x.1 x.2.1 x.2.2.1 x.2.2.2) (fun x => some (Gw x.1 ∧ chk x.1 = 0 ∧ (0 ≤ x.2.1 ∧ x.2.1 < x.1.cyc) ∧ gateR x.2.2.1)) (fun x => int_ .i64 (stayV x.1 x.2.1 x.2.2.1 x.2.2.2)) (fun _ => rfl) (fun _ => rfl) (fun _ => rfl) stay_runs
noncomputable def cxLeft : Cx Try.prog := { ps := [chkS, phS, stayS], es := [], is := [], n0 := 1, loops := fun _ => none, cuts := fun _ => none }
set_option maxHeartbeats 8000000 in
theorem left_runs (x : GL × Int × Int) (hp : obp (some (Gw x.1))) : Runs cxLeft Try.f12 [G1 0 x.1, int_ .i64 x.2.1, int_ .i64 x.2.2] [roG x.1] fun v _ => isRes (int_ .i64 (leftV x.1 x.2.1 x.2.2)) v := by
  obtain ⟨l, a, k⟩ := x
  have hw : Gw l := hp
  have hs := hw.self
  repeat' (first | with_reducible exact trivial | with_reducible exact rfl | with_reducible exact Nat.le_refl _ | with_reducible exact (fun _ _ => rfl) | ((conv => whnf); first | (refine fun _ => ?_) | refine ⟨?_, ?_⟩ | exact trivial | exact Nat.le_refl _ | exact lex_q (by kernel_rfl) | exact lex_t (by kernel_rfl) | exact lex_h (by kernel_rfl) | fail))
  all_goals (try dsimp only at *)
  all_goals (try simp only [gl_self] at *)
  all_goals (try simp (disch := omega) only [fdiv_nn, Int.reduceToNat, IntKind.bits, Nat.min_def, Nat.reduceLeDiff, if_true, if_false, Int.reducePow, wu8, wu32, w64', wu64', tdiv_pos, tmod_pos, Int.toNat_natCast, Nat.zero_add] at *)
  all_goals (try omega)
  all_goals (try unfold Tm gateR)
  all_goals (try omega)
  all_goals first
    | (unfold leftV inR gateR; rw [if_neg (by omega)]; done)
    | (have ok := chk_ok (l := l) (by omega)
       have c1 := ok.c1
       have c2 := ok.c2
       have p0 := Int.emod_nonneg (a - l.base) (show l.cyc ≠ 0 by omega)
       have p1 := Int.emod_lt_of_pos (a - l.base) (show 0 < l.cyc by omega)
       first
       | exact p0
       | exact p1
       | (rw [w64' (n := 2 * l.cyc) (by omega) (by omega)] at *
          first
          | (unfold leftV inR gateR; rw [if_pos (by omega), if_pos (by omega)]; done)
          | (unfold leftV inR gateR; rw [if_pos (by omega), if_neg (by omega)]; done)))
noncomputable def leftS : PSpec Try.prog := readN fn12 (.s3 Lens.gl (.int .i64) (.int .i64)) (fun _ => cxLeft) (fun x => some (Gw x.1)) (fun x => int_ .i64 (leftV x.1 x.2.1 x.2.2)) (fun _ => rfl) (fun _ => rfl) (fun _ => rfl) left_runs
set_option maxHeartbeats 8000000 in
theorem next_runs (x : GL × Int × Int) (hp : obp (some (Gw x.1))) : Runs cxLeft Try.f16 [G1 0 x.1, int_ .i64 x.2.1, int_ .i64 x.2.2] [roG x.1] fun v _ => isRes (.tup [.a (.v (.int .i64 (nextV x.1 x.2.1 x.2.2))), .a (.v (.bool (nextB x.1 x.2.1 x.2.2)))]) v := by
  obtain ⟨l, a, k⟩ := x
  have hw : Gw l := hp
  have hs := hw.self
  repeat' (first | with_reducible exact trivial | with_reducible exact rfl | with_reducible exact Nat.le_refl _ | with_reducible exact (fun _ _ => rfl) | ((conv => whnf); first | (refine fun _ => ?_) | refine ⟨?_, ?_⟩ | exact trivial | exact Nat.le_refl _ | exact lex_q (by kernel_rfl) | exact lex_t (by kernel_rfl) | exact lex_h (by kernel_rfl) | fail))
  all_goals (try dsimp only at *)
  all_goals (try simp only [gl_self] at *)
  all_goals (try simp (disch := omega) only [fdiv_nn, Int.reduceToNat, IntKind.bits, Nat.min_def, Nat.reduceLeDiff, if_true, if_false, Int.reducePow, wu8, wu32, w64', wu64', tdiv_pos, tmod_pos, Int.toNat_natCast, Nat.zero_add] at *)
  all_goals (try omega)
  all_goals (try unfold Tm gateR)
  all_goals (try omega)
  all_goals first
    | (unfold nextV inR gateR; rw [if_neg (by omega)]; done)
    | (exact decide_eq_false (by unfold inR gateR; omega))
    | (have ok := chk_ok (l := l) (by omega)
       have c1 := ok.c1
       have c2 := ok.c2
       have p0 := Int.emod_nonneg (a - l.base) (show l.cyc ≠ 0 by omega)
       have p1 := Int.emod_lt_of_pos (a - l.base) (show 0 < l.cyc by omega)
       first
       | exact p0
       | exact p1
       | (rw [w64' (n := 2 * l.cyc) (by omega) (by omega)] at *
          first
          | (unfold nextV inR gateR; rw [if_neg (by omega)]; done)
          | (unfold nextV inR gateR; rw [if_pos (by omega)]; done)
          | (exact decide_eq_false (by unfold inR gateR; omega))
          | (exact decide_eq_true (by unfold inR gateR; omega))))
noncomputable def nextS : PSpec Try.prog := readN fn16 (.s3 Lens.gl (.int .i64) (.int .i64)) (fun _ => cxLeft) (fun x => some (Gw x.1)) (fun x => .tup [.a (.v (.int .i64 (nextV x.1 x.2.1 x.2.2))), .a (.v (.bool (nextB x.1 x.2.1 x.2.2)))]) (fun _ => rfl) (fun _ => rfl) (fun _ => rfl) next_runs
set_option maxHeartbeats 8000000 in
theorem turn_runs (x : GL × Int) (hp : obp (some (Gw x.1))) : Runs cxLeft Try.f40 [G1 0 x.1, int_ .i64 x.2] [roG x.1] fun v _ => isRes (.tup [.a (.v (.int .i64 (turnV x.1 x.2))), .a (.v (.bool (turnB x.1 x.2)))]) v := by
  obtain ⟨l, a⟩ := x
  have hw : Gw l := hp
  have hs := hw.self
  repeat' (first | with_reducible exact trivial | with_reducible exact rfl | with_reducible exact Nat.le_refl _ | with_reducible exact (fun _ _ => rfl) | ((conv => whnf); first | (refine fun _ => ?_) | refine ⟨?_, ?_⟩ | exact trivial | exact Nat.le_refl _ | exact lex_q (by kernel_rfl) | exact lex_t (by kernel_rfl) | exact lex_h (by kernel_rfl) | fail))
  all_goals (try dsimp only at *)
  all_goals (try simp only [gl_self] at *)
  all_goals (try simp (disch := omega) only [fdiv_nn, Int.reduceToNat, IntKind.bits, Nat.min_def, Nat.reduceLeDiff, if_true, if_false, Int.reducePow, wu8, wu32, w64', wu64', tdiv_pos, tmod_pos, Int.toNat_natCast, Nat.zero_add] at *)
  all_goals (try omega)
  all_goals (try unfold Tm)
  all_goals (try omega)
  all_goals first
    | (unfold turnV inR; rw [if_neg (by omega)]; done)
    | (exact decide_eq_false (by unfold inR; omega))
    | (exact decide_eq_true (by unfold inR; omega))
    | (have ok := chk_ok (l := l) (by omega)
       have c1 := ok.c1
       have c2 := ok.c2
       have p0 := Int.emod_nonneg (a - l.base) (show l.cyc ≠ 0 by omega)
       have p1 := Int.emod_lt_of_pos (a - l.base) (show 0 < l.cyc by omega)
       have p2 : phV l a = (a - l.base) % l.cyc := rfl
       first
       | (unfold turnV inR; rw [if_pos (by omega), if_pos (by omega)]; done)
       | (rw [w64' (n := l.cyc - phV l a) (by omega) (by omega), w64' (by omega) (by omega)]
          unfold turnV inR; rw [if_pos (by omega), if_neg (by omega)]; done))
noncomputable def turnS : PSpec Try.prog := readN fn40 (.s2 Lens.gl (.int .i64)) (fun _ => cxLeft) (fun x => some (Gw x.1)) (fun x => .tup [.a (.v (.int .i64 (turnV x.1 x.2))), .a (.v (.bool (turnB x.1 x.2)))]) (fun _ => rfl) (fun _ => rfl) (fun _ => rfl) turn_runs

end Go.Proofs.Ytaadejgoafdbcaa
