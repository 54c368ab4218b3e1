/-
  Contracts of functions, and plain facts about them, that a claim of this seat uses.
-/
import Derived.Test.YtnkmfkongmijfaaSx
import Derived.Test.YtnkmfkongmijfaaFdbN
import Derived.Test.YtnkmfkongmijfaaProg
namespace Go.Proofs.Ytnkmfkongmijfaa
open Go.Sx
set_option linter.unusedVariables false
set_option linter.unusedSimpArgs false
set_option maxRecDepth 100000

/-! fdb: the reference's SetVlan. -/
theorem fn21 : FnOf Try.prog 21 Try.f21 := ⟨Try.func21, rfl, rfl, mixed⟩
def svNo (n x po ba : Int) : Prop := x < 1 ∨ 4094 < x ∨ po < 0 ∨ allN n < po ∨ ba < 0 ∨ allN n < ba ∨ ¬ boX ba po 8 = ba
/-- the list of VLANs behind it -/
def svL (x po ba : Int) (l : List KV) : List KV := ([x], [po, ba]) :: l.filter (neB [x])
theorem alt_s {m0 : Mem} {ρ : List Nat} {v : SV} {m : Mem} {a b : Alt} {l : List Alt} (h : anyAlt m0 ρ v m (b :: l)) : anyAlt m0 ρ v m (a :: b :: l) := .inr h
structure VOK (y : VC) (n : Nat) : Prop where
  s : SlR y.len y.cap y.cap
  m : y.len ≤ n
def rtNV (x : RT) (y : VC) : List SA := rtL x (slV 3 y) (slP 1 x.p) (slA 2 x.a)
def svA (x : RT × Int × Int × Int) : List Alt := [.cond (svNo x.1.n x.2.1 x.2.2.1 x.2.2.2) (.tup [.agg (rt0 x.1), .a (i_ 1)]) (rtM x.1),
  .fam VC (fun y => ¬ svNo x.1.n x.2.1 x.2.2.1 x.2.2.2 ∧ VOK y (x.1.v.len + 1) ∧ vcL y = svL x.2.1 x.2.2.1 x.2.2.2 (vcL x.1.v)) (fun y => .tup [.agg (rtNV x.1 y), .a (i_ 0)]) (fun y => rtM x.1 ++ [rwV y])]
def ixC (c : Nat) (l : List SA) : Nat := match (l[c]? : Option SA) with | some (.slc i _ _ _ _) => i | _ => 0
def nRen (c : Nat) (l : List SA) : List Nat := bif Nat.ble 3 (ixC c l) then [0, 1, 2, ixC c l] else [0, 1, 2]
def svRen (v : SV) : List Nat := match v with | .tup [.agg l, _] => nRen 2 l | _ => [0, 1, 2]
structure FV (p : KV → Bool) (L : List KV) (v : VC) (i : Nat) (y : VC) : Prop where
  fi : i ≤ v.len
  fl : y.len ≤ i + 1
  fc : y.len ≤ y.cap ∧ y.cap ≤ 9223372036854775807
  fe : vcL y ++ (rows (vcR v) (v.len - i) i).filter p = L ++ (vcL v).filter p
theorem vc_push {y z : VC} (hl : z.len = y.len + 1) (h : ∀ r, r < y.len → vcR z r = vcR y r) : vcL z = vcL y ++ [vcR z y.len] := by
  unfold vcL
  rw [hl, rows_push y.len 0 (fun r _ h2 => h r (by omega)), Nat.zero_add]
theorem fv_0 {p : KV → Bool} {L : List KV} {v y : VC} (h : y.len = 1) (hL : L = [vcR y 0]) (hc : y.len ≤ y.cap ∧ y.cap ≤ 9223372036854775807) : FV p L v 0 y :=
  ⟨Nat.zero_le _, Nat.le_of_eq h, hc, by rw [hL]; show rows (vcR y) y.len 0 ++ _ = _; rw [h]; rfl⟩
theorem fv_skip {p : KV → Bool} {L : List KV} {v y : VC} {i : Nat} (h : FV p L v i y) (hi : i < v.len) (hp : p (vcR v i) = false) : FV p L v (i + 1) y := by
  obtain ⟨h1, h2, h3, h4⟩ := h
  rw [rows_step hi, fil_no hp] at h4
  exact ⟨hi, by omega, h3, h4⟩
theorem fv_push {p : KV → Bool} {L : List KV} {v y z : VC} {i : Nat} (h : FV p L v i y) (hi : i < v.len) (hp : p (vcR v i) = true) (hl : z.len = y.len + 1) (hc : z.len ≤ z.cap ∧ z.cap ≤ 9223372036854775807) (hr : ∀ r, r < y.len → vcR z r = vcR y r) (he : vcR z y.len = vcR v i) : FV p L v (i + 1) z := by
  obtain ⟨h1, h2, h3, h4⟩ := h
  rw [rows_step hi, fil_yes hp] at h4
  refine ⟨hi, by omega, hc, ?_⟩
  rw [vc_push hl hr, he, List.append_assoc]; exact h4
theorem fv_end {p : KV → Bool} {L : List KV} {v y : VC} {i : Nat} (h : FV p L v i y) (hi : ¬ (i : Int) < (v.len : Int)) : VOK y (v.len + 1) ∧ vcL y = L ++ (vcL v).filter p := by
  obtain ⟨h1, h2, h3, h4⟩ := h
  rw [rows_end (by omega)] at h4
  exact ⟨⟨⟨h3.1, h3.1, h3.2⟩, by omega⟩, by rw [← h4]; exact (List.append_nil _).symm⟩
abbrev laSv (x : RT) (k po ba : Int) : LA where
  ι := Nat × VC
  inv := fun y => ¬ svNo x.n k po ba ∧ FV (neB [k]) [([k], [po, ba])] x.v y.1 y.2
  T := fun y => ⟨73, [(1, int_ .i64 k), (4, .one (.a (.ptr 3 0))), (8, .one (.a (.ptr 4 0))), (10, .one (.a (slV 5 y.2))), (55, .one (.a (slV 0 x.v))), (56, int_ .i64 x.v.len), (57, int_ .i64 y.1)],
    rtM x ++ [some ⟨true, .flat (rt0 x)⟩, some ⟨true, .flat zT⟩, rwV y.2]⟩
  μ := fun y => x.v.len - y.1
  ren := fun S => [0, 1, 2, S.ix 4, S.ix 8, S.ix 10]
noncomputable def cxSv (x : RT × Int × Int × Int) : Cx Try.prog := { ps := [allS, boS], es := [], is := [], n0 := 3, loops := fun i => match i with | 5 => some (.inv (laSv x.1 x.2.1 x.2.2.1 x.2.2.2)) | _ => none, cuts := fun _ => none }
section
attribute [local irreducible] enter anyAlt Lex HeldOK
set_option maxHeartbeats 8000000 in
theorem rsv_runs (x : RT × Int × Int × Int) (hp : obp (some (RTw x.1))) : Runs (cxSv x) Try.f21 [.one (.agg (rt0 x.1)), int_ .i64 x.2.1, int_ .i64 x.2.2.1, int_ .i64 x.2.2.2] (rtM x.1) fun v m => anyAlt (rtM x.1) (svRen v) v m (svA x) := by
  obtain ⟨t, k, po, ba⟩ := x
  have hw : RTw t := hp
  obtain ⟨h1, h2, h3⟩ := hw.v
  have h4 := hw.vm
  have h5 := hw.n
  dsimp only at *
  repeat' (first | with_reducible exact trivial | with_reducible exact rfl | with_reducible exact Nat.le_refl _ | with_reducible exact (fun _ _ => rfl) | ((conv => whnf); first | (refine fun (x : Nat × VC) => ?_) | (exact fun h => absurd h (by decide)) | (intro h9; (have h8 := of_decide_eq_true (p := type_of% h9) (by decide)); clear h8 h9) | (refine fun _ => ?_) | refine ⟨?_, ?_⟩ | exact trivial | exact Nat.le_refl _ | exact lex_q (by kernel_rfl) | exact lex_t (by kernel_rfl) | exact lex_h (by kernel_rfl) | fail))
  all_goals (try (have hi := (by assumption : (laSv t k po ba).inv x); dsimp only [laSv] at hi; have i2 := hi.2.fl; have i3 := hi.2.fc.1; have i4 := hi.2.fc.2; have i6 := hi.2.fi))
  all_goals (try (have hn : svNo t.n k po ba := by (unfold svNo; (try dsimp only at *); omega)))
  any_goals first
    | (refine enter_mk (la := laSv t k po ba) (0, ⟨_, _, 0, _, _, _⟩) ?_ (by (repeat' (first | ((conv => whnf); first | refine ⟨?_, ?_⟩ | exact trivial | fail) | (dsimp only; done) | ((try dsimp only); first | with_reducible exact rfl | exact Nat.le_refl _ | with_reducible exact (fun _ _ => rfl)))); first | ((all_goals ((try dsimp only [laSv] at *); (all_goals (try simp (disch := omega) only [w64', wu64', tdiv_pos, tmod_pos, Int.toNat_natCast, Nat.zero_add] at *)); (all_goals ((first | rfl | omega))))); done) | fail))
    | (refine enter_mk (la := laSv t k po ba) (x.1 + 1, x.2) ?_ (by (repeat' (first | ((conv => whnf); first | refine ⟨?_, ?_⟩ | exact trivial | fail) | (dsimp only; done) | ((try dsimp only); first | with_reducible exact rfl | exact Nat.le_refl _ | with_reducible exact (fun _ _ => rfl)))); first | ((all_goals ((try dsimp only [laSv] at *); (all_goals (try simp (disch := omega) only [w64', wu64', tdiv_pos, tmod_pos, Int.toNat_natCast, Nat.zero_add] at *)); (all_goals ((first | rfl | omega | (rw [w64' (by omega) (by omega)]; omega)))))); done) | fail))
    | (refine enter_mk (la := laSv t k po ba) (x.1 + 1, ⟨_, _, 0, _, _, _⟩) ?_ (by (repeat' (first | ((conv => whnf); first | refine ⟨?_, ?_⟩ | exact trivial | fail) | (dsimp only; done) | ((try dsimp only); first | with_reducible exact rfl | exact Nat.le_refl _ | with_reducible exact (fun _ _ => rfl)))); first | ((all_goals ((try dsimp only [laSv] at *); (all_goals (try simp (disch := omega) only [w64', wu64', tdiv_pos, tmod_pos, Int.toNat_natCast, Nat.zero_add] at *)); (all_goals ((first | rfl | omega | (rw [w64' (by omega) (by omega)]; omega)))))); done) | fail))
    | (refine alt_l ?_ (by (repeat' (first | with_reducible exact rfl | exact Nat.le_refl _ | with_reducible exact (fun _ _ => rfl) | ((conv => whnf); first | refine ⟨?_, ?_⟩ | exact trivial | fail))); first | ((all_goals ((try dsimp only [id] at *); (all_goals (try simp (disch := omega) only [w64', wu64', tdiv_pos, tmod_pos, Int.toNat_natCast, Nat.zero_add] at *)); (all_goals ((first | rfl | omega))))); done) | fail))
    | (refine alt_s (alt_fam (α := VC) x.2 ?_ (by (repeat' (first | with_reducible exact rfl | exact Nat.le_refl _ | with_reducible exact (fun _ _ => rfl) | ((conv => whnf); first | refine ⟨?_, ?_⟩ | exact trivial | fail))); first | ((all_goals ((try dsimp only [id] at *); (all_goals (try simp (disch := omega) only [w64', wu64', tdiv_pos, tmod_pos, Int.toNat_natCast, Nat.zero_add] at *)); (all_goals ((first | rfl | omega))))); done) | fail)))
    | skip
  all_goals (try dsimp only [laSv] at *)
  all_goals (try simp only [Int.toNat_natCast, Nat.zero_add] at *)
  all_goals (try omega)
  all_goals (try (refine ⟨?_, fv_0 ?_ ?_ ?_⟩; (unfold svNo; omega); exact rfl; exact rfl; exact ⟨Nat.le_refl 1, (by decide : 1 ≤ 9223372036854775807)⟩))
  all_goals (try (unfold svNo; omega))
  all_goals (have hi := (by assumption : ¬ svNo t.n k po ba ∧ FV (neB [k]) [([k], [po, ba])] t.v x.1 x.2))
  all_goals (try exact ⟨hi.1, fv_end hi.2 (by assumption)⟩)
  all_goals first
    | exact ⟨hi.1, fv_skip hi.2 (by omega) (ne_f (show [t.v.g0 x.1] = [k] from congrArg (fun z => [z]) (Classical.not_not.1 (by assumption))))⟩
    | exact ⟨hi.1, fv_push hi.2 (by omega) (ne_t (show ¬ [t.v.g0 x.1] = [k] from fun h9 => absurd (List.cons.inj h9).1 (by assumption))) rfl ⟨by assumption, by assumption⟩ (fun r hr => by simp [vcR, hr]) (by simp [vcR])⟩
    | fail
noncomputable def rsvS : ESpec Try.prog := newN fn21 (.s4 Lens.rt (.int .i64) (.int .i64) (.int .i64)) cxSv (fun x => some (RTw x.1)) svA (fun _ v _ => svRen v) (fun _ => rfl) (fun x a ha => by
  rcases List.mem_cons.1 ha with rfl | ha
  · exact rfl
  · rw [List.mem_singleton.1 ha]; exact fun _ => rfl) rsv_runs
end

end Go.Proofs.Ytnkmfkongmijfaa
