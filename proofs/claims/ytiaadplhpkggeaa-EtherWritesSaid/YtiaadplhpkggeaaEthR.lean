/-
  Contracts of functions, and plain facts about them, that a claim of this seat uses.
-/
import Derived.Test.YtiaadplhpkggeaaSx
import Derived.Test.YtiaadplhpkggeaaFcsNum
import Derived.Test.YtiaadplhpkggeaaFcsBits
import Derived.Test.YtiaadplhpkggeaaFcsA
import Derived.Test.YtiaadplhpkggeaaFcsB
import Derived.Test.YtiaadplhpkggeaaFcsIn
import Derived.Test.YtiaadplhpkggeaaFcsC
import Derived.Test.YtiaadplhpkggeaaFcsJ
import Derived.Test.YtiaadplhpkggeaaFcsH
import Derived.Test.YtiaadplhpkggeaaEthNum
import Derived.Test.YtiaadplhpkggeaaEthA
import Derived.Test.YtiaadplhpkggeaaEthB
import Derived.Test.YtiaadplhpkggeaaEthD
import Derived.Test.YtiaadplhpkggeaaEthM
import Derived.Test.YtiaadplhpkggeaaProg
namespace Go.Proofs.Ytiaadplhpkggeaa
open Go.Sx
set_option linter.unusedVariables false
set_option linter.unusedSimpArgs false
set_option maxRecDepth 100000

/-! frames: the reference's way of making bytes. -/
theorem fn40 : FnOf Try.prog 40 Try.f40 := ⟨Try.func40, rfl, rfl, mixed⟩
theorem fn41 : FnOf Try.prog 41 Try.f41 := ⟨Try.func41, rfl, rfl, mixed⟩
theorem fn43 : FnOf Try.prog 43 Try.f43 := ⟨Try.func43, rfl, rfl, mixed⟩
theorem fn32 : FnOf Try.prog 32 Try.f32 := ⟨Try.func32, rfl, rfl, mixed⟩
theorem fn35 : FnOf Try.prog 35 Try.f35 := ⟨Try.func35, rfl, rfl, mixed⟩
def macA (f : Fr) : SV := .one (.agg [u8_ f.a0, u8_ f.a1, u8_ f.a2, u8_ f.a3, u8_ f.a4, u8_ f.a5])
def macB (f : Fr) : SV := .one (.agg [u8_ f.b0, u8_ f.b1, u8_ f.b2, u8_ f.b3, u8_ f.b4, u8_ f.b5])
abbrev laI (f : Fr) : LA where
  ι := Nat × Nat × (Nat → Int)
  inv := fun y => y.1 ≤ 6 ∧ CB y.1 (preC f) ⟨y.2.1, y.2.2⟩
  T := fun y => ⟨72, [(1, .one (.a (.ptr 1 0))), (3, .one (.a (.slc 2 1 0 y.1 y.2.1))), (11, macA f), (12, int_ .i64 y.1)], [roB f.data, frR f, some ⟨true, .tab y.2.1 [.int .u8 y.2.2]⟩]⟩
  μ := fun y => 6 - y.1
  ren := fun S => [0, S.ix 1, S.ix 3]
abbrev laJ (f : Fr) : LA where
  ι := Nat × Nat × (Nat → Int)
  inv := fun y => (6 ≤ y.1 ∧ y.1 ≤ 12) ∧ CB y.1 (preC f) ⟨y.2.1, y.2.2⟩
  T := fun y => ⟨72, [(1, .one (.a (.ptr 1 0))), (3, .one (.a (.slc 2 1 0 y.1 y.2.1))), (21, macB f), (22, int_ .i64 ((y.1 : Int) - 6))], [roB f.data, frR f, some ⟨true, .tab y.2.1 [.int .u8 y.2.2]⟩]⟩
  μ := fun y => 12 - y.1
  ren := fun S => [0, S.ix 1, S.ix 3]
abbrev laK (f : Fr) : LA where
  ι := Nat × (Nat → Int)
  inv := fun y => CB (ht f) (preC f) ⟨y.1, y.2⟩
  T := fun y => ⟨72, [(1, .one (.a (.ptr 1 0))), (3, .one (.a (.slc 2 1 0 (ht f) y.1)))], [roB f.data, frR f, some ⟨true, .tab y.1 [.int .u8 y.2]⟩]⟩
  μ := fun _ => 0
  ren := fun S => [0, S.ix 1, S.ix 3]
abbrev laM (f : Fr) : LA where
  ι := Nat × (Nat → Int)
  inv := fun y => CB (hl f) (preC f) ⟨y.1, y.2⟩
  T := fun y => ⟨72, [(1, .one (.a (.ptr 1 0))), (3, .one (.a (.slc 2 1 0 (hl f) y.1)))], [roB f.data, frR f, some ⟨true, .tab y.1 [.int .u8 y.2]⟩]⟩
  μ := fun _ => 0
  ren := fun S => [0, S.ix 1, S.ix 3]
noncomputable def cxIns (f : Fr) : Cx Try.prog := { ps := [], es := [], is := [inl fn43 cxTwo], n0 := 1, loops := fun i => match i with | 3 => some (.inv (laI f)) | 8 => some (.inv (laJ f)) | _ => none, cuts := fun i => (match i with | 17 => some (laK f) | 19 => some (laM f) | _ => none), held := fun i => (match i with | 18 => some (true, .take 0 (.take 5 (.take 6 (.two 1 (.two 2 (.one 3 (.one 4 (.one 7 (.one 8 (.take 9 .done))))) 3 (.one 2 (.one 4 (.one 7 (.one 8 (.take 9 .done)))))) 3 (.one 1 (.one 2 (.one 4 (.one 7 (.one 8 (.take 9 .done)))))))))) | 19 => some (true, .take 0 (.take 1 (.take 2 (.take 5 (.take 6 (.take 7 (.take 10 (.take 11 (.one 3 (.one 4 (.one 8 (.one 9 (.one 12 (.take 13 .done)))))))))))))) | _ => none), lose := fun i => (match i with | 18 => [2] | 19 => [2] | _ => []) }
def inPre (f : Fr) : Prop := FrW f ∧ Sml f ∧ ¬ BadN f
theorem hi8 (x : Int) : x / 256 % 256 % 256 = hi x := by unfold hi; omega
theorem lo8 (x : Int) : x % 256 % 256 = lo x := by unfold lo; omega
theorem cb_s {f : Fr} {n c c' : Nat} {F G : Nat → Int} (hy : CB n (preC f) ⟨c', G⟩) (hc : n + 1 ≤ c ∧ c ≤ 9223372036854775807) (hF : ∀ r, r < n → F r = G r) (h0 : F n = preC f n) : CB (n + 1) (preC f) ⟨c, F⟩ := by
  refine ⟨hc.1, hc.2, fun r hr => ?_⟩
  dsimp only
  by_cases h1 : r < n
  · rw [hF r h1]; exact hy.2.2 r h1
  · rw [show r = n by omega]; exact h0
theorem cb_t' {f : Fr} {c c' : Nat} {F G : Nat → Int} (h : f.tg = true) (hy : CB 12 (preC f) ⟨c', G⟩) (hc : 16 ≤ c ∧ c ≤ 9223372036854775807) (hF : ∀ r, r < 12 → F r = G r) (e0 : F 12 = 129) (e1 : F 13 = 0) (e2 : F 14 = hi (tag f)) (e3 : F 15 = lo (tag f)) : CB (ht f) (preC f) ⟨c, F⟩ := by
  have hh : ht f = 16 := by unfold ht; rw [if_pos h]
  refine ⟨by rw [hh]; exact hc.1, hc.2, fun r hr => ?_⟩
  rw [hh] at hr
  dsimp only
  by_cases h1 : r < 12
  · rw [hF r h1]; exact hy.2.2 r h1
  · have hp := pre_tag f h (r - 12) (by omega)
    rw [show 12 + (r - 12) = r by omega] at hp
    rw [hp]
    rcases (by omega : r = 12 ∨ r = 13 ∨ r = 14 ∨ r = 15) with h2 | h2 | h2 | h2 <;> subst h2
    · exact e0
    · exact e1
    · exact e2
    · exact e3
section
attribute [local irreducible] Bw Lex HeldOK enter anyAlt
set_option maxHeartbeats 8000000 in
theorem ins_runs (f : Fr) (hp : obp (some (inPre f))) : Runs (cxIns f) Try.f41 [F1 0 f] [roB f.data] fun v m => anyAlt [roB f.data] [0, v.ix] v m (newB 1 [roB f.data] (hl f + 4 + f.data.len) (inG f)) := by
  obtain ⟨hf, hs, hb⟩ : FrW f ∧ Sml f ∧ ¬ BadN f := hp
  unfold BadN at hb
  have hht := ht_c f
  have hhl := hl_c f
  repeat' (first | with_reducible exact trivial | with_reducible exact rfl | with_reducible exact Nat.le_refl _ | with_reducible exact (fun _ _ => rfl) | ((conv => whnf); first | (refine fun (x : Nat × Nat × (Nat → Int)) => ?_) | (refine fun (y : Nat × Nat × (Nat → Int)) => ?_) | (refine fun (z : Nat × (Nat → Int)) => ?_) | (refine fun (u : Nat × (Nat → Int)) => ?_) | (exact fun h => absurd h (by decide)) | (intro h9; (have h8 := of_decide_eq_true (p := type_of% h9) (by decide)); clear h8 h9) | (refine fun _ => ?_) | refine ⟨?_, ?_⟩ | exact trivial | exact Nat.le_refl _ | exact lex_q (by kernel_rfl) | exact lex_t (by kernel_rfl) | exact lex_h (by kernel_rfl) | fail))
  all_goals (try (have hx := (by assumption : (laI f).inv x); dsimp only [laI] at hx; have hxl := hx.2.len; dsimp only at hxl))
  all_goals (try (have hx := (by assumption : (laJ f).inv x); dsimp only [laJ] at hx; have hxl := hx.2.len; dsimp only at hxl))
  all_goals (try (have hy := (by assumption : (laJ f).inv y); dsimp only [laJ] at hy))
  any_goals (refine enter_mk (la := laI f) (_, _, _) ?_ (by (repeat' (first | ((conv => whnf); first | refine ⟨?_, ?_⟩ | exact trivial | fail) | (dsimp only; done) | ((try dsimp only); first | with_reducible exact rfl | exact Nat.le_refl _ | with_reducible exact (fun _ _ => rfl)))); first | ((all_goals ((try dsimp only [laI] at *); (all_goals (try simp (disch := omega) only [w64', wu64', tdiv_pos, tmod_pos, Int.toNat_natCast, Nat.zero_add] at *)); (all_goals (omega)))); done) | fail))
  any_goals (refine enter_mk (la := laJ f) (_, _, _) ?_ (by (repeat' (first | ((conv => whnf); first | refine ⟨?_, ?_⟩ | exact trivial | fail) | (dsimp only; done) | ((try dsimp only); first | with_reducible exact rfl | exact Nat.le_refl _ | with_reducible exact (fun _ _ => rfl)))); first | ((all_goals ((try dsimp only [laJ] at *); (all_goals (try simp (disch := omega) only [w64', wu64', tdiv_pos, tmod_pos, Int.toNat_natCast, Nat.zero_add] at *)); (all_goals (omega)))); done) | fail))
  any_goals (refine enter_mk (la := laK f) (_, _) ?_ (by (repeat' (first | ((conv => whnf); first | refine ⟨?_, ?_⟩ | exact trivial | fail) | (dsimp only; done) | ((try dsimp only); first | with_reducible exact rfl | exact Nat.le_refl _ | with_reducible exact (fun _ _ => rfl)))); first | ((all_goals ((try dsimp only [laK] at *); (all_goals (try simp (disch := omega) only [w64', wu64', tdiv_pos, tmod_pos, Int.toNat_natCast, Nat.zero_add] at *)); (all_goals ((unfold ht; first | (rw [if_pos (by assumption)]; omega) | (rw [if_neg (by rw [(by assumption : f.tg = false)]; decide)]; omega)))))); done) | fail))
  any_goals (refine enter_mk (la := laM f) (_, _) ?_ (by (repeat' (first | ((conv => whnf); first | refine ⟨?_, ?_⟩ | exact trivial | fail) | (dsimp only; done) | ((try dsimp only); first | with_reducible exact rfl | exact Nat.le_refl _ | with_reducible exact (fun _ _ => rfl)))); first | ((all_goals ((try dsimp only [laM] at *); (all_goals (try simp (disch := omega) only [w64', wu64', tdiv_pos, tmod_pos, Int.toNat_natCast, Nat.zero_add] at *)); (all_goals ((unfold hl ht; simp [*]))))); done) | fail))
  any_goals (refine alt_fam (α := CG) ⟨_, _⟩ ?_ (by (repeat' (first | with_reducible exact rfl | exact Nat.le_refl _ | with_reducible exact (fun _ _ => rfl) | ((conv => whnf); first | refine ⟨?_, ?_⟩ | exact trivial | fail))); first | ((all_goals ((try dsimp only [id] at *); (all_goals (try simp (disch := omega) only [w64', wu64', tdiv_pos, tmod_pos, Int.toNat_natCast, Nat.zero_add] at *)); (all_goals ((try omega))))); done) | fail))
  all_goals (try dsimp only [cutR, cutL, id, laI, laJ, laK, laM] at *)
  all_goals (try simp (disch := omega) only [fdiv_nn, Int.reduceToNat, IntKind.bits, Nat.min_def, Nat.reduceLeDiff, if_true, if_false, Int.reducePow, wu8, wu32, w64', wu64', tdiv_pos, tmod_pos, Int.toNat_natCast, Nat.zero_add] at *)
  all_goals (try omega)
  all_goals (try (
    refine ⟨by omega, cb_s hx.2 (by omega) (fun r hr => by rw [if_pos hr]) ?_⟩
    rw [if_neg (by omega), if_pos (by omega), Nat.sub_self, pre_at0 f _ (by omega)]
    first | ((have e : x.fst = 0 := by omega); rw [e]; rfl) | ((have e : x.fst = 1 := by omega); rw [e]; rfl) | ((have e : x.fst = 2 := by omega); rw [e]; rfl) | ((have e : x.fst = 3 := by omega); rw [e]; rfl) | ((have e : x.fst = 4 := by omega); rw [e]; rfl) | ((have e : x.fst = 5 := by omega); rw [e]; rfl) | ((have e : x.fst = 6 := by omega); rw [e]; rfl) | ((have e : x.fst = 7 := by omega); rw [e]; rfl) | ((have e : x.fst = 8 := by omega); rw [e]; rfl) | ((have e : x.fst = 9 := by omega); rw [e]; rfl) | ((have e : x.fst = 10 := by omega); rw [e]; rfl) | ((have e : x.fst = 11 := by omega); rw [e]; rfl)))
  all_goals (try (have e12 : x.fst = 12 := by omega))
  all_goals (try (have hy := (by assumption : CB (ht f) (preC f) ⟨y.1, y.2⟩); have hyl := hy.len; dsimp only at hyl))
  all_goals (try (have hy := (by assumption : CB (hl f) (preC f) ⟨y.1, y.2⟩); have hyl := hy.len; dsimp only at hyl))
  all_goals (try (have hy := (by assumption : CB (ht f) (preC f) ⟨z.1, z.2⟩); have hyl := hy.len; dsimp only at hyl))
  all_goals (try (have hy := (by assumption : CB (hl f) (preC f) ⟨z.1, z.2⟩); have hyl := hy.len; dsimp only at hyl))
  all_goals (try (have hy := (by assumption : CB (ht f) (preC f) ⟨u.1, u.2⟩); have hyl := hy.len; dsimp only at hyl))
  all_goals (try (have hy := (by assumption : CB (hl f) (preC f) ⟨u.1, u.2⟩); have hyl := hy.len; dsimp only at hyl))
  all_goals (try omega)
  all_goals (have hdw := hf.d.out; have hsl : f.data.len ≤ 100000 := hs)
  all_goals (try omega)
  · exact ⟨trivial, Nat.zero_le _, by show (0 : Nat) ≤ _; exact Nat.zero_le _, fun r hr => absurd hr (Nat.not_lt_zero r)⟩
  · rw [show x.1 = 6 by omega] at hx ⊢
    exact ⟨by omega, hx.2⟩
  · rw [e12] at hx ⊢
    refine cb_t' (by assumption) hx.2 (by omega) (fun r hr => ?_) ?_ ?_ ?_ ?_
    all_goals ((try dsimp only); simp (disch := omega) only [if_pos, if_neg, Nat.add_sub_cancel_left, Nat.sub_self, Nat.add_assoc, Nat.reduceAdd, Nat.add_sub_add_left, Nat.add_zero, Nat.reduceSub])
    all_goals (try rfl)
    all_goals (rw [show tag f = 8192 * f.prio + f.vid + 4096 by unfold tag; rw [if_pos (by assumption : f.drop = true)]; omega]; first | exact hi8 _ | exact lo8 _)
  · rw [e12] at hx ⊢
    refine cb_t' (by assumption) hx.2 (by omega) (fun r hr => ?_) ?_ ?_ ?_ ?_
    all_goals ((try dsimp only); simp (disch := omega) only [if_pos, if_neg, Nat.add_sub_cancel_left, Nat.sub_self, Nat.add_assoc, Nat.reduceAdd, Nat.add_sub_add_left, Nat.add_zero, Nat.reduceSub])
    all_goals (try rfl)
    all_goals (rw [show tag f = 8192 * f.prio + f.vid by unfold tag; rw [if_neg (by rw [(by assumption : f.drop = false)]; decide)]; omega]; first | exact hi8 _ | exact lo8 _)
  · have e1 : ht f = 12 := by unfold ht; rw [(by assumption : f.tg = false)]; rfl
    rw [e1]
    rw [e12] at hx
    exact hx.2
  · refine cb_m (by assumption) hy (by omega) (fun r hr => ?_) ?_ ?_ ?_ ?_ ?_ ?_
    all_goals ((try dsimp only); simp (disch := omega) only [if_pos, if_neg, Nat.add_sub_cancel_left, Nat.sub_self, Nat.add_assoc, Nat.reduceAdd, Nat.add_sub_add_left, Nat.add_zero, Nat.reduceSub])
    all_goals first | rfl | exact hi8 _ | exact lo8 _
  · refine cb_m (by assumption) hy (by omega) (fun r hr => ?_) ?_ ?_ ?_ ?_ ?_ ?_
    all_goals ((try dsimp only); simp (disch := omega) only [if_pos, if_neg, Nat.add_sub_cancel_left, Nat.sub_self, Nat.add_assoc, Nat.reduceAdd, Nat.add_sub_add_left, Nat.add_zero, Nat.reduceSub])
    all_goals first | rfl | exact hi8 _ | exact lo8 _
  · refine cb_m (by assumption) hy (by omega) (fun r hr => ?_) ?_ ?_ ?_ ?_ ?_ ?_
    all_goals ((try dsimp only); simp (disch := omega) only [if_pos, if_neg, Nat.add_sub_cancel_left, Nat.sub_self, Nat.add_assoc, Nat.reduceAdd, Nat.add_sub_add_left, Nat.add_zero, Nat.reduceSub])
    all_goals first | rfl | exact hi8 _ | exact lo8 _
  · exact cb_o (by assumption) hy
  · refine cb_i hy (by omega) (fun r hr => ?_) ?_ ?_ ?_ ?_ (fun r hr => ?_)
    all_goals ((try dsimp only); simp (disch := omega) only [if_pos, if_neg, Nat.add_sub_cancel_left, Nat.sub_self, Nat.add_assoc, Nat.reduceAdd, Nat.add_sub_add_left, Nat.add_zero, Nat.reduceSub])
    all_goals first | rfl | exact hi8 _ | exact lo8 _
end
noncomputable def insS : ESpec Try.prog := newN fn41 sf cxIns (fun f => some (inPre f)) (fun f => newB 1 [roB f.data] (hl f + 4 + f.data.len) (inG f)) (fun _ v _ => [0, v.ix]) (fun _ => rfl) (fun x a ha => by rw [List.mem_singleton.1 ha]; exact fun _ => rfl) ins_runs
theorem inPre_mk {f : Fr} (h1 : FrW f) (h2 : Sml f) (h3 : ¬ BadN f) : inPre f := ⟨h1, h2, h3⟩
theorem siz_hl (f : Fr) : siz f = ((hl f + 4 + f.data.len + 4 : Nat) : Int) := by
  unfold siz hl
  cases f.tg <;> cases f.many <;> simp <;> omega
noncomputable def cxRchk : Cx Try.prog := { ps := [], es := [insS], is := [], n0 := 1, loops := fun _ => none, cuts := fun _ => none }
section
attribute [local irreducible] Bw enter anyAlt inPre
set_option maxHeartbeats 4000000 in
theorem rchk_runs (f : Fr) (hp : obp (some (FrW f ∧ Sml f))) : Runs cxRchk Try.f40 [F1 0 f] [roB f.data] fun v _ => isRes (int_ .i64 (chk f)) v := by
  obtain ⟨hf, hs⟩ : FrW f ∧ Sml f := hp
  have h : f.data.len ≤ 100000 := hs
  have hsz := siz_hl f
  have hhl := hl_c f
  repeat' (first | with_reducible exact trivial | with_reducible exact rfl | with_reducible exact Nat.le_refl _ | with_reducible exact (fun _ _ => rfl) | ((conv => whnf); first | (refine fun (x : CG) => ?_) | (refine fun _ => ?_) | refine ⟨?_, ?_⟩ | exact trivial | exact Nat.le_refl _ | exact lex_q (by kernel_rfl) | exact lex_t (by kernel_rfl) | exact lex_h (by kernel_rfl) | fail))
  all_goals (try simp only [fr_eta] at *)
  all_goals (try simp (disch := omega) only [fdiv_nn, Int.reduceToNat, IntKind.bits, Nat.min_def, Nat.reduceLeDiff, if_true, if_false, Int.reducePow, wu8, wu32, w64', wu64', tdiv_pos, tmod_pos, Int.toNat_natCast, Nat.zero_add] at *)
  all_goals (try (have h8 := (by assumption : CB (hl f + 4 + f.data.len) (inG f) x).len; dsimp only at h8))
  all_goals first
    | omega
    | exact hs
    | exact inPre_mk hf hs (by unfold BadN; grind)
    | exact chk_1 (by unfold BadN BadT; grind)
    | exact chk_23 (by unfold BadN; grind) (by unfold BadT; grind) (by grind)
    | exact chk_3 (by unfold BadN; grind) (by unfold BadT; grind) (by grind) (by omega)
    | exact chk_ok (by unfold BadN; grind) (by unfold BadT; grind) (by grind) (by omega)
    | fail
end
noncomputable def rchkS : PSpec Try.prog := readN fn40 sf (fun _ => cxRchk) (fun f => some (FrW f ∧ Sml f)) (fun f => int_ .i64 (chk f)) (fun _ => rfl) (fun _ => rfl) (fun _ => rfl) rchk_runs
abbrev laQ (f : Fr) : LA where
  ι := Nat × Nat × (Nat → Int)
  inv := fun y => (hl f + 4 + f.data.len ≤ y.1 ∧ y.1 ≤ tot f) ∧ CB y.1 (inG f) ⟨y.2.1, y.2.2⟩
  T := fun y => ⟨21, [(5, .one (.a (.slc 1 1 0 y.1 y.2.1)))], [roB f.data, some ⟨true, .tab y.2.1 [.int .u8 y.2.2]⟩]⟩
  μ := fun y => 60 - y.1
  ren := fun S => [0, S.ix 5]
noncomputable def cxRenc (f : Fr) : Cx Try.prog := { ps := [rchkS], es := [insS, rcloseS], is := [], n0 := 1, loops := fun i => match i with | 5 => some (.inv (laQ f)) | _ => none, cuts := fun _ => none }
section
attribute [local irreducible] Bw enter anyAlt inPre Lex HeldOK
set_option maxHeartbeats 4000000 in
theorem renc_runs (f : Fr) (hp : obp (some (FrW f ∧ Sml f))) : Runs (cxRenc f) Try.f32 [F1 0 f] [roB f.data] fun v m => anyAlt [roB f.data] (opRen v) v m (encAlts f) := by
  obtain ⟨hf, hs⟩ : FrW f ∧ Sml f := hp
  have hsl : f.data.len ≤ 100000 := hs
  have hhl := hl_c f
  repeat' (first | with_reducible exact trivial | with_reducible exact rfl | with_reducible exact Nat.le_refl _ | with_reducible exact (fun _ _ => rfl) | ((conv => whnf); first | (refine fun (x : CG) => ?_) | (refine fun (y : Nat × Nat × (Nat → Int)) => ?_) | (refine fun _ => ?_) | refine ⟨?_, ?_⟩ | exact trivial | exact Nat.le_refl _ | exact lex_q (by kernel_rfl) | exact lex_t (by kernel_rfl) | exact lex_h (by kernel_rfl) | fail))
  all_goals (try simp only [fr_eta] at *)
  all_goals (try exact hs)
  all_goals (try exact hf)
  all_goals (try (have hk : chk f = 0 := Decidable.not_not.1 (by assumption)))
  all_goals (try exact inPre_mk hf hs (chk_0 hk).1)
  all_goals (try (have hz := (by assumption : (laQ f).inv y); dsimp only [laQ] at hz))
  any_goals (refine enter_mk (la := laQ f) (_, _, _) ?_ (by (repeat' (first | ((conv => whnf); first | refine ⟨?_, ?_⟩ | exact trivial | fail) | (dsimp only; done) | ((try dsimp only); first | with_reducible exact rfl | exact Nat.le_refl _ | with_reducible exact (fun _ _ => rfl)))); first | ((all_goals ((try dsimp only [laQ] at *); (all_goals (try simp (disch := omega) only [w64', wu64', tdiv_pos, tmod_pos, Int.toNat_natCast, Nat.zero_add] at *)); (all_goals (omega)))); done) | fail))
  any_goals (first
    | refine enc_no ?_ (by (repeat' (first | with_reducible exact rfl | exact Nat.le_refl _ | with_reducible exact (fun _ _ => rfl) | ((conv => whnf); first | refine ⟨?_, ?_⟩ | exact trivial | fail))); first | ((all_goals ((try dsimp only [id] at *); (all_goals (try simp (disch := omega) only [w64', wu64', tdiv_pos, tmod_pos, Int.toNat_natCast, Nat.zero_add] at *)); (all_goals (rfl)))); done) | fail)
    | refine alt_r (alt_fam (α := CG) ⟨_, _⟩ ?_ (by (repeat' (first | with_reducible exact rfl | exact Nat.le_refl _ | with_reducible exact (fun _ _ => rfl) | ((conv => whnf); first | refine ⟨?_, ?_⟩ | exact trivial | fail))); first | ((all_goals ((try dsimp only [id, cutL] at *); (all_goals (try simp (disch := omega) only [w64', wu64', tdiv_pos, tmod_pos, Int.toNat_natCast, Nat.zero_add] at *)); (all_goals ((have hz2 := hz.1; rw [tot_60 hz2.1 hz2.2 (by omega)]))))); done) | fail)))
  all_goals (try dsimp only [cutR, cutL, id, laQ] at *)
  all_goals (try simp (disch := omega) only [fdiv_nn, Int.reduceToNat, IntKind.bits, Nat.min_def, Nat.reduceLeDiff, if_true, if_false, Int.reducePow, wu8, wu32, w64', wu64', tdiv_pos, tmod_pos, Int.toNat_natCast, Nat.zero_add] at *)
  all_goals (try omega)
  · exact ⟨⟨Nat.le_refl _, by unfold tot; omega⟩, by assumption⟩
  · have hyl := hz.2.len; dsimp only at hyl; omega
  · have hyl := hz.2.len; dsimp only at hyl; omega
  · refine ⟨⟨by omega, by unfold tot at *; omega⟩, cb_p (y := (y.1, y.2.1, y.2.2)) hz.2 hz.1.1 (by omega) (fun r hr => ?_) ?_⟩
    all_goals ((try dsimp only); simp (disch := omega) only [if_pos, if_neg, Nat.add_sub_cancel_left, Nat.sub_self, Nat.add_assoc, Nat.reduceAdd, Nat.add_sub_add_left, Nat.add_zero])
    all_goals rfl
  · exact hz.2.bw (fun r hr => inG_wf hf r)
  · have h1 := hz.1.2; have h2 := (chk_0 hk).2.2.2.2; have h3 := siz_tot f; omega
  · refine ⟨hk, ?_⟩
    rw [tot_60 hz.1.1 hz.1.2 (by omega)]
    have hx := (by assumption : CB (y.1 + 4) (clG (fun q => y.2.2 (q + 0)) y.1) x)
    exact ⟨hx.1, hx.2.1, fun r hr => (hx.2.2 r hr).trans (clG_congr (fun q hq => hz.2.2.2 q hq) r)⟩
end
noncomputable def rencS : ESpec Try.prog := newN fn32 sf cxRenc (fun f => some (FrW f ∧ Sml f)) encAlts (fun _ v _ => opRen v) (fun _ => rfl) (fun x a ha => by
  rcases List.mem_cons.1 ha with h | h
  · rw [h]; rfl
  · rw [List.mem_singleton.1 h]; exact fun _ => rfl) renc_runs

end Go.Proofs.Ytiaadplhpkggeaa
