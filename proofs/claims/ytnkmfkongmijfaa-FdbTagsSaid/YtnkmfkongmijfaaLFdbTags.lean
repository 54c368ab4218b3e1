/-
  For all ports and numbers of VLANs and priorities the law FdbTags answers true and leaves all memory as it was.
-/
import Derived.Test.YtnkmfkongmijfaaSx
import Derived.Test.YtnkmfkongmijfaaFdbQ
import Derived.Test.YtnkmfkongmijfaaRows
import Derived.WalkKit
import Derived.ProofKit
import Derived.OpenShut
namespace Go.Proofs.Ytnkmfkongmijfaa.fdbTags
open Go.ChangeShapes Go.WideShapes Go.ChangeAt Go.RowKit Go.Sx
set_option linter.unusedVariables false
set_option linter.unusedSimpArgs false
set_option maxRecDepth 100000

def vq (p : Pt) : Pt := { p with v := vId p.v }
def pr (q : Int) : Int := bits .and .i64 q 7
theorem pr_in (q : Int) : 0 ≤ pr q ∧ pr q ≤ 7 := by
  have h : bits .and .i64 q 7 = q % 8 := and_mask q 3 (by decide)
  unfold pr
  rw [h]; omega
theorem tg_ok : nOK 2 1 := by unfold nOK; decide
def m9k (p : Pt) : M9 → Int
  | .m0 => p.p0 | .m1 => p.p1 | .m2 => p.p2 | .m3 => p.p3 | .m4 => p.p4 | .m5 => p.p5 | .m6 => p.p6 | .m7 => p.p7 | .m8 => p.p0
abbrev laC (p : Pt) (D q : Int) : LA where
  ι := M9
  inv := fun c => (c.n : Int) = q ∧ c.n < 8
  T := fun c => ⟨138, [(1, int_ .i64 D), (2, int_ .i64 c.n), (3, .one (.a (.ptr 0 0))), (9, int_ .i64 p.v), (10, int_ .i64 p.p0), (11, int_ .i64 0), (12, int_ .i64 D), (13, int_ .i64 (m9k p c)), (14, int_ .i64 0), (15, int_ .i64 p.v), (16, int_ .i64 (m9k p c)), (17, int_ .i64 0)], [some ⟨true, .flat (ptL p)⟩]⟩
  μ := fun _ => 0
  ren := fun S => [S.ix 3]
noncomputable def cxL (p : Pt) (D q : Int) : Cx Try.prog := { ps := [hdS, otS, lnS, inS], es := [newS, svS, spS, lrS, agS, stS], is := [], n0 := 0, loops := fun i => none, cuts := fun i => match i with | 12 => some (laC (vq p) (vId D) (pr q)) | _ => none }
theorem m9_p {p : Pt} {q : Int} {c : M9} (h : (c.n : Int) = q) (h8 : c.n < 8) : p.p q.toNat = m9k p c := by
  subst h
  cases c <;> first | rfl | exact absurd h8 (by decide)
theorem m9_of {q : Int} (h : 0 ≤ q ∧ q ≤ 7) : ∃ c : M9, (c.n : Int) = q ∧ c.n < 8 := by
  rcases (by omega : q = 0 ∨ q = 1 ∨ q = 2 ∨ q = 3 ∨ q = 4 ∨ q = 5 ∨ q = 6 ∨ q = 7) with rfl | rfl | rfl | rfl | rfl | rfl | rfl | rfl
  · exact ⟨.m0, rfl, by decide⟩
  · exact ⟨.m1, rfl, by decide⟩
  · exact ⟨.m2, rfl, by decide⟩
  · exact ⟨.m3, rfl, by decide⟩
  · exact ⟨.m4, rfl, by decide⟩
  · exact ⟨.m5, rfl, by decide⟩
  · exact ⟨.m6, rfl, by decide⟩
  · exact ⟨.m7, rfl, by decide⟩
theorem inR_of {t : Ft} {a : Int} {g : Bool} {x q u v w : Int} (h : inR t a g x q = .tup [.a (i_ u), .a (i_ v), .a (i_ w)]) : inV t a g x q = u ∧ inP t a g x q = v ∧ inE t a g x q = w := by
  unfold inR i_ at h
  injection h with h
  injection h with h1 h
  injection h with h2 h
  injection h with h3 h
  injection h1 with h1
  injection h1 with h1
  injection h1 with _ h1
  injection h2 with h2
  injection h2 with h2
  injection h2 with _ h2
  injection h3 with h3
  injection h3 with h3
  injection h3 with _ h3
  exact ⟨h1, h2, h3⟩
theorem tg_all (p : Pt) {D : Int} (hD : 1 ≤ D ∧ D ≤ 1024) : (stE (ft0 2 1) 1 (vq p) = 0 ∧ svE (stT (ft0 2 1) 1 (vq p)) (vId p.v) ⟨2, 0⟩ = 0 ∧ svE (svT (stT (ft0 2 1) 1 (vq p)) (vId p.v) ⟨2, 0⟩) D ⟨3, 0⟩ = 0 ∧ TgI (vq p) D (svT (svT (stT (ft0 2 1) 1 (vq p)) (vId p.v) ⟨2, 0⟩) D ⟨3, 0⟩)) ∨ (stE (ft0 2 1) 1 (vq p) = 1 ∧ stE (stT (ft0 2 1) 1 (vq p)) 1 (vq p) = 1) := by
  have hv : 1 ≤ (vq p).v ∧ (vq p).v ≤ 1024 := vId_in p.v
  rcases tg_st hv with ⟨h1, h2⟩ | ⟨h1, h2⟩
  · left
    rw [h2]
    have e1 := tg_1 hv
    have e2 := tg_2 hv hD
    exact ⟨h1, e1.1, e2.1, e2.2⟩
  · right
    rw [h2]; exact ⟨h1, h1⟩
attribute [local irreducible] enter nOK svE svT stE stT lrE lrT otP otB ft0 PlW vPo vBa inV inP inE
set_option maxHeartbeats 8000000 in
theorem runs (p : Pt) (v q : Int) : Runs (cxL p v q) Try.f7 [.one (ptC p), int_ .i64 v, int_ .i64 q] [] yes := by
  have hok := tg_ok
  have hD := vId_in v
  have hq := pr_in q
  have hv : 1 ≤ (vq p).v ∧ (vq p).v ≤ 1024 := vId_in p.v
  have hall := tg_all p hD
  obtain ⟨c, hc, hc8⟩ := m9_of hq
  repeat' (first | with_reducible exact trivial | with_reducible exact rfl | with_reducible exact Nat.le_refl _ | with_reducible exact (fun _ _ => rfl) | ((conv => whnf); first | ((refine fun (x : M9) => ?_); rcases x with x | x | x | x | x | x | x | x | x) | (exact fun h => absurd h (by decide)) | (intro h9; (have h8 := of_decide_eq_true (p := type_of% h9) (by decide)); clear h8 h9) | (refine fun _ => ?_) | refine ⟨?_, ?_⟩ | exact trivial | exact Nat.le_refl _ | exact lex_q (by kernel_rfl) | exact lex_t (by kernel_rfl) | exact lex_h (by kernel_rfl) | fail))
  all_goals (try exact absurd hok (by assumption))
  all_goals (try with_reducible exact absurd rfl (by assumption))
  all_goals (try with_reducible decide)
  all_goals (try with_reducible exact (decide_eq_true rfl).symm)
  · rcases hall with ⟨h1, _⟩ | ⟨_, h2⟩
    · exact absurd h1 (by assumption)
    · exact (decide_eq_true h2).symm
  · rcases hall with ⟨_, h2, _⟩ | ⟨h1, _⟩
    · exact absurd h2 (by assumption)
    · exact absurd h1 (fun h9 => (by assumption : ¬¬ stE (ft0 2 1) 1 (vq p) = 0) (fun h10 => by rw [h9] at h10; exact absurd h10 (by decide)))
  · rcases hall with ⟨_, _, h3, _⟩ | ⟨h1, _⟩
    · exact absurd h3 (by assumption)
    · exact absurd h1 (fun h9 => (by assumption : ¬¬ stE (ft0 2 1) 1 (vq p) = 0) (fun h10 => by rw [h9] at h10; exact absurd h10 (by decide)))
  · rcases hall with ⟨_, _, _, h4⟩ | ⟨h1, _⟩
    · obtain ⟨r1, r2, r3⟩ := tg_in h4 hv hD hq
      obtain ⟨a1, a2, a3⟩ := inR_of r1
      obtain ⟨b1, b2, b3⟩ := inR_of r2
      obtain ⟨c1, c2, c3⟩ := inR_of r3
      rw [m9_p hc hc8] at b2 c2
      (conv => whnf); refine enter_mk (la := laC (vq p) (vId v) (pr q)) c ?_ (by (repeat' (first | ((conv => whnf); first | refine ⟨?_, ?_⟩ | exact trivial | fail) | (dsimp only; done) | ((try dsimp only); first | with_reducible exact rfl | exact Nat.le_refl _ | with_reducible exact (fun _ _ => rfl)))); all_goals ((first | rfl | exact hc.symm | exact hc | exact a1.symm | exact a2.symm | exact a3.symm | exact b1.symm | exact b2.symm | exact b3.symm | exact c1.symm | exact c2.symm | exact c3.symm | exact a1 | exact a2 | exact a3 | exact b1 | exact b2 | exact b3 | exact c1 | exact c2 | exact c3)))
      exact ⟨hc, hc8⟩
    · exact absurd h1 (fun h9 => (by assumption : ¬¬ stE (ft0 2 1) 1 (vq p) = 0) (fun h10 => by rw [h9] at h10; exact absurd h10 (by decide)))
  all_goals first | exact (decide_eq_true rfl).symm | exact absurd rfl (by assumption : ¬ m9k (vq p) _ = _) | exact absurd ((by assumption : (laC (vq p) (vId v) (pr q)).inv M9.m8)).2 (by decide) | fail

theorem own : ownKnob Try.prog.godebug = none := by kernel_rfl

set_option maxRecDepth 100000 in
theorem lifted (os : Os) (started : os.Started) (H : Type) (enc : TypeId × Value → H) :
    ReturnsInHanded {} Try.checked os 7 .any (Rows.fdbTagsSpec.pre6 enc Try.prog Try.f7 Rows.fdbTagsRow.domain false) (Rows.fdbTagsSpec.post enc Try.prog Try.f7 false true false false) := by
  refine returnsInHanded_of_change (C := Try.checked) own started (by kernel_rfl) Try.func7
    (ChangeSpec.witness6 (enc := enc) (C := Try.checked) false ⟨#[], #[.agg #[.int .i64 0, .int .i64 0, .int .i64 0, .int .i64 0, .int .i64 0, .int .i64 0, .int .i64 0, .int .i64 0, .int .i64 0], .int .i64 0, .int .i64 0], []⟩ 8 (by kernel_rfl) (by kernel_rfl) (by kernel_rfl) (by kernel_rfl)) ?_
  intro W base args ds gs before hval0 hW hcnd _
  have hval : ∀ (j : Nat) t v, Try.f7.params[j]? = some t → args[j]? = some v → Value.okWide Try.prog W .any base t v := hval0
  have hW' := hW
  obtain ⟨p, q, hA0, hV, rfl, hfz, hnd⟩ := hW
  have hA : DataW.TrodAll enc Try.prog W 0 (fun _ => true) true Try.f7.params.toList args.toList ds p := hA0
  rw [Try.params7] at hA hval
  obtain ⟨v0, vs0, d0, ds0, p0, q0, hargs0, rfl, rfl, h0, r0⟩ := trodAll_cons hA
  obtain ⟨v1, vs1, d1, ds1, p1, q1, hargs1, rfl, rfl, h1, r1⟩ := trodAll_cons r0
  obtain ⟨v2, vs2, d2, ds2, p2, q2, hargs2, rfl, rfl, h2, r2⟩ := trodAll_cons r1
  obtain ⟨rfl, rfl, rfl⟩ := trodAll_nil r2
  obtain ⟨rfl, rfl⟩ := trodVars_none hV
  obtain rfl : args = #[v0, v1, v2] := by cases args; simp_all
  obtain ⟨cs0, hv0, hl0, hc0⟩ := agg_open (d := 6) (row := [some .i64, some .i64, some .i64, some .i64, some .i64, some .i64, some .i64, some .i64, some .i64]) (by kernel_rfl) (by kernel_rfl) (hval 0 51 v0 rfl rfl) h0
  have g0_0 := listIs_of hl0 hc0
  clear hl0 hc0
  obtain ⟨_, cs0_1, rfl, ⟨b0_0, rfl, w0_0⟩, g0_1⟩ := listIs_cons g0_0
  obtain ⟨_, cs0_2, rfl, ⟨b0_1, rfl, w0_1⟩, g0_2⟩ := listIs_cons g0_1
  obtain ⟨_, cs0_3, rfl, ⟨b0_2, rfl, w0_2⟩, g0_3⟩ := listIs_cons g0_2
  obtain ⟨_, cs0_4, rfl, ⟨b0_3, rfl, w0_3⟩, g0_4⟩ := listIs_cons g0_3
  obtain ⟨_, cs0_5, rfl, ⟨b0_4, rfl, w0_4⟩, g0_5⟩ := listIs_cons g0_4
  obtain ⟨_, cs0_6, rfl, ⟨b0_5, rfl, w0_5⟩, g0_6⟩ := listIs_cons g0_5
  obtain ⟨_, cs0_7, rfl, ⟨b0_6, rfl, w0_6⟩, g0_7⟩ := listIs_cons g0_6
  obtain ⟨_, cs0_8, rfl, ⟨b0_7, rfl, w0_7⟩, g0_8⟩ := listIs_cons g0_7
  obtain ⟨_, cs0_9, rfl, ⟨b0_8, rfl, w0_8⟩, g0_9⟩ := listIs_cons g0_8
  obtain rfl := listIs_nil g0_9
  subst hv0
  obtain ⟨a1, rfl, rfl, rfl, w1⟩ := open_int Try.underlying3 (hval 1 3 v1 rfl rfl) h1
  obtain ⟨a2, rfl, rfl, rfl, w2⟩ := open_int Try.underlying3 (hval 2 3 v2 rfl rfl) h2
  refine Calls.mono (law_calls mixed Try.func7 (runs ⟨b0_0, b0_1, b0_2, b0_3, b0_4, b0_5, b0_6, b0_7, b0_8⟩ a1 a2) (rel_nil (fun _ => none) W) (Nat.le_refl 0) rfl) fun e W' ⟨he, hb⟩ => ?_
  subst he
  exact ⟨_, rfl, law_post hW' rfl rfl (by kernel_rfl) (by decide +kernel) rfl Try.underlying4 hb⟩

theorem over : Rows.fdbTagsRow.holds Try.pinned (OpenSpec.ofChange Rows.fdbTagsSpec) :=
  OpenClaim.holds_of_wide 7 Try.f7 rfl rfl rfl rfl rfl rfl rfl ⟨rfl, rfl, rfl, rfl, rfl⟩ rfl rfl rfl rfl rfl (by kernel_rfl) Try.func7 (by kernel_rfl)
    (of_decide_eq_true (by kernel_rfl)) (by unfold Func.isWrapper; first | (rw [if_pos (by decide +kernel)]; kernel_rfl) | (rw [if_neg (by decide +kernel)]; exact ⟨rfl, rfl⟩))
    (fun os started H enc _ => lifted os started H enc)

/-- FdbTags -/
theorem proved : Rows.FdbTagsSaid := over
#print axioms proved
end Go.Proofs.Ytnkmfkongmijfaa.fdbTags
