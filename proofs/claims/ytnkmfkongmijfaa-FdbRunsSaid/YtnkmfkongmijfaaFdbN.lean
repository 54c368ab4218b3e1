/-
  Contracts of functions, and plain facts about them, that a claim of this seat uses.
-/
import Derived.Test.YtnkmfkongmijfaaSx
import Derived.Test.YtnkmfkongmijfaaFdbL
import Derived.Test.YtnkmfkongmijfaaFdbC
import Derived.Test.YtnkmfkongmijfaaFdbM
import Derived.Test.YtnkmfkongmijfaaFdbE
import Derived.Test.YtnkmfkongmijfaaProg
namespace Go.Proofs.Ytnkmfkongmijfaa
open Go.Sx
set_option linter.unusedVariables false
set_option linter.unusedSimpArgs false
set_option maxRecDepth 100000

/-! fdb: the reference's put. -/
theorem fn34 : FnOf Try.prog 34 Try.f34 := ⟨Try.func34, rfl, rfl, mixed⟩
def neB (k : List Int) (r : KV) : Bool := !decide (r.1 = k)
def putL (e : En) (l : List KV) : List KV := l.filter (neB (plK e.k)) ++ (if 0 < e.po then [enR e] else [])
structure AOK (y : AC) (n : Nat) : Prop where
  s : SlR y.len y.cap y.cap
  m : y.len ≤ n
/-- a new list of addresses beside a table -/
def rtNA (x : RT) (y : AC) : List SA := rtL x (slV 0 x.v) (slP 1 x.p) (slA 3 y)
def putA (x : RT × En) : List Alt := [.fam AC (fun y => AOK y (x.1.a.len + 1) ∧ acL y = putL x.2 (acL x.1.a)) (fun y => .one (.agg (rtNA x.1 y))) (fun y => rtM x.1 ++ [rwA y])]
def ixA (l : List SA) : Nat := match (l[4]? : Option SA) with | some (.slc i _ _ _ _) => i | _ => 0
def naRen (v : SV) : List Nat := match v with | .one (.agg l) => [0, 1, 2, ixA l] | _ => [0, 1, 2]
theorem fil_yes {r : KV} {l : List KV} {p : KV → Bool} (h : p r = true) : (r :: l).filter p = r :: l.filter p := List.filter_cons_of_pos h
theorem fil_no {r : KV} {l : List KV} {p : KV → Bool} (h : p r = false) : (r :: l).filter p = l.filter p := List.filter_cons_of_neg (by rw [h]; decide)
/-- one row kept -/
theorem ac_push {y z : AC} (hl : z.len = y.len + 1) (h : ∀ r, r < y.len → acR z r = acR y r) : acL z = acL y ++ [acR z y.len] := by
  unfold acL
  rw [hl, rows_push y.len 0 (fun r _ h2 => h r (by omega)), Nat.zero_add]
def zT : List SA := [i_ 0, i_ 0, .v (.slice none 0 0), .v (.slice none 0 0), .v (.slice none 0 0)]
def enL (e : En) : List SA := [i_ e.k.vid, u_ e.k.m0, u_ e.k.m1, u_ e.k.m2, u_ e.k.m3, u_ e.k.m4, u_ e.k.m5, i_ e.po, b_ e.st, i_ e.se]
structure FI (p : KV → Bool) (a : AC) (i : Nat) (y : AC) : Prop where
  fi : i ≤ a.len
  fl : y.len ≤ i
  fc : y.len ≤ y.cap ∧ y.cap ≤ 9223372036854775807
  fe : acL y ++ (rows (acR a) (a.len - i) i).filter p = (acL a).filter p
theorem fi_0 {p : KV → Bool} {a y : AC} (h : y.len = 0) (hc : y.cap ≤ 9223372036854775807) : FI p a 0 y :=
  ⟨Nat.zero_le _, Nat.le_of_eq h, by omega, by unfold acL; rw [h]; rfl⟩
theorem fi_skip {p : KV → Bool} {a y : AC} {i : Nat} (h : FI p a i y) (hi : i < a.len) (hp : p (acR a i) = false) : FI p a (i + 1) y := by
  obtain ⟨h1, h2, h3, h4⟩ := h
  rw [rows_step hi, fil_no hp] at h4
  exact ⟨hi, by omega, h3, h4⟩
theorem fi_push {p : KV → Bool} {a y z : AC} {i : Nat} (h : FI p a i y) (hi : i < a.len) (hp : p (acR a i) = true) (hl : z.len = y.len + 1) (hc : z.len ≤ z.cap ∧ z.cap ≤ 9223372036854775807) (hr : ∀ r, r < y.len → acR z r = acR y r) (he : acR z y.len = acR a i) : FI p a (i + 1) z := by
  obtain ⟨h1, h2, h3, h4⟩ := h
  rw [rows_step hi, fil_yes hp] at h4
  refine ⟨hi, by omega, hc, ?_⟩
  rw [ac_push hl hr, he, List.append_assoc]; exact h4
theorem fi_end {p : KV → Bool} {a y : AC} {i : Nat} (h : FI p a i y) (hi : ¬ (i : Int) < (a.len : Int)) : acL y = (acL a).filter p ∧ AOK y a.len := by
  obtain ⟨h1, h2, h3, h4⟩ := h
  rw [rows_end (by omega)] at h4
  exact ⟨by rw [← h4]; exact (List.append_nil _).symm, ⟨⟨h3.1, h3.1, h3.2⟩, by omega⟩⟩
theorem ne_t {r : KV} {k : List Int} (h : ¬ r.1 = k) : neB k r = true := by unfold neB; rw [decide_eq_false h]; rfl
theorem ne_f {r : KV} {k : List Int} (h : r.1 = k) : neB k r = false := by unfold neB; rw [decide_eq_true h]; rfl
theorem put_0 {e : En} {a y : AC} (h : acL y = (acL a).filter (neB (plK e.k)) ∧ AOK y a.len) (he : ¬ 0 < e.po) : AOK y (a.len + 1) ∧ acL y = putL e (acL a) := by
  obtain ⟨h1, ⟨h2, h3⟩⟩ := h
  exact ⟨⟨h2, by omega⟩, by unfold putL; rw [if_neg he, h1, List.append_nil]⟩
theorem put_1 {e : En} {a y z : AC} (h : acL y = (acL a).filter (neB (plK e.k)) ∧ AOK y a.len) (he : 0 < e.po) (hl : z.len = y.len + 1) (hc : z.len ≤ z.cap ∧ z.cap ≤ 9223372036854775807) (hr : ∀ r, r < y.len → acR z r = acR y r) (hz : acR z y.len = enR e) : AOK z (a.len + 1) ∧ acL z = putL e (acL a) := by
  obtain ⟨h1, ⟨h2, h3⟩⟩ := h
  exact ⟨⟨⟨hc.1, hc.1, hc.2⟩, by omega⟩, by unfold putL; rw [if_pos he, ac_push hl hr, hz, h1]⟩
abbrev laPu (x : RT) (e : En) : LA where
  ι := Nat × AC
  inv := fun y => FI (neB (plK e.k)) x.a y.1 y.2
  T := fun y => ⟨43, [(2, .one (.a (.ptr 3 0))), (3, .one (.a (.ptr 4 0))), (4, .one (.a (.ptr 5 0))), (5, .one (.a (slA 6 y.2))), (10, .one (.a (slA 2 x.a))), (11, int_ .i64 x.a.len), (12, int_ .i64 y.1)],
    rtM x ++ [some ⟨true, .flat (rt0 x)⟩, some ⟨true, .flat (enL e)⟩, some ⟨true, .flat zT⟩, rwA y.2]⟩
  μ := fun y => x.a.len - y.1
  ren := fun S => [0, 1, 2, S.ix 2, S.ix 3, S.ix 4, S.ix 5]
noncomputable def cxPu (x : RT × En) : Cx Try.prog := { ps := [], es := [], is := [], n0 := 3, loops := fun i => match i with | 3 => some (.inv (laPu x.1 x.2)) | _ => none, cuts := fun _ => none }
section
attribute [local irreducible] enter anyAlt Lex HeldOK
set_option maxHeartbeats 8000000 in
theorem pu_runs (x : RT × En) (hp : obp (some (RTw x.1))) : Runs (cxPu x) Try.f34 [.one (.agg (rt0 x.1)), .one (enC x.2)] (rtM x.1) fun v m => anyAlt (rtM x.1) (naRen v) v m (putA x) := by
  obtain ⟨t, e⟩ := x
  have hw : RTw t := hp
  obtain ⟨h1, h2, h3⟩ := hw.a
  have h4 := hw.am
  dsimp only at *
  repeat' (first | with_reducible exact trivial | with_reducible exact rfl | with_reducible exact Nat.le_refl _ | with_reducible exact (fun _ _ => rfl) | ((conv => whnf); first | (refine fun (x : Nat × AC) => ?_) | (exact fun h => absurd h (by decide)) | (intro h9; (have h8 := of_decide_eq_true (p := type_of% h9) (by decide)); clear h8 h9) | (refine fun _ => ?_) | refine ⟨?_, ?_⟩ | exact trivial | exact Nat.le_refl _ | exact lex_q (by kernel_rfl) | exact lex_t (by kernel_rfl) | exact lex_h (by kernel_rfl) | fail))
  all_goals (try (have hi := (by assumption : (laPu t e).inv x); dsimp only [laPu] at hi; have i2 := hi.fl; have i3 := hi.fc.1; have i4 := hi.fc.2; have i6 := hi.fi))
  any_goals first
    | (refine enter_mk (la := laPu t e) (0, ⟨_, _, 0, _, _, _, _, _, _, _, _, _, _⟩) ?_ (by (repeat' (first | ((conv => whnf); first | refine ⟨?_, ?_⟩ | exact trivial | fail) | (dsimp only; done) | ((try dsimp only); first | with_reducible exact rfl | exact Nat.le_refl _ | with_reducible exact (fun _ _ => rfl)))); first | ((all_goals ((try dsimp only [laPu] at *); (all_goals (try simp (disch := omega) only [w64', wu64', tdiv_pos, tmod_pos, Int.toNat_natCast, Nat.zero_add] at *)); (all_goals ((first | rfl | omega))))); done) | fail))
    | (refine enter_mk (la := laPu t e) (x.1 + 1, x.2) ?_ (by (repeat' (first | ((conv => whnf); first | refine ⟨?_, ?_⟩ | exact trivial | fail) | (dsimp only; done) | ((try dsimp only); first | with_reducible exact rfl | exact Nat.le_refl _ | with_reducible exact (fun _ _ => rfl)))); first | ((all_goals ((try dsimp only [laPu] at *); (all_goals (try simp (disch := omega) only [w64', wu64', tdiv_pos, tmod_pos, Int.toNat_natCast, Nat.zero_add] at *)); (all_goals ((first | rfl | omega | (rw [w64' (by omega) (by omega)]; omega)))))); done) | fail))
    | (refine enter_mk (la := laPu t e) (x.1 + 1, ⟨_, _, 0, _, _, _, _, _, _, _, _, _, _⟩) ?_ (by (repeat' (first | ((conv => whnf); first | refine ⟨?_, ?_⟩ | exact trivial | fail) | (dsimp only; done) | ((try dsimp only); first | with_reducible exact rfl | exact Nat.le_refl _ | with_reducible exact (fun _ _ => rfl)))); first | ((all_goals ((try dsimp only [laPu] at *); (all_goals (try simp (disch := omega) only [w64', wu64', tdiv_pos, tmod_pos, Int.toNat_natCast, Nat.zero_add] at *)); (all_goals ((first | rfl | omega | (rw [w64' (by omega) (by omega)]; omega)))))); done) | fail))
    | (refine alt_fam (α := AC) x.2 ?_ (by (repeat' (first | with_reducible exact rfl | exact Nat.le_refl _ | with_reducible exact (fun _ _ => rfl) | ((conv => whnf); first | refine ⟨?_, ?_⟩ | exact trivial | fail))); first | ((all_goals ((try dsimp only [id] at *); (all_goals (try simp (disch := omega) only [w64', wu64', tdiv_pos, tmod_pos, Int.toNat_natCast, Nat.zero_add] at *)); (all_goals ((first | rfl | omega))))); done) | fail))
    | (refine alt_fam (α := AC) ⟨_, _, 0, _, _, _, _, _, _, _, _, _, _⟩ ?_ (by (repeat' (first | with_reducible exact rfl | exact Nat.le_refl _ | with_reducible exact (fun _ _ => rfl) | ((conv => whnf); first | refine ⟨?_, ?_⟩ | exact trivial | fail))); first | ((all_goals ((try dsimp only [id] at *); (all_goals (try simp (disch := omega) only [w64', wu64', tdiv_pos, tmod_pos, Int.toNat_natCast, Nat.zero_add] at *)); (all_goals ((first | rfl | omega))))); done) | fail))
    | skip
  all_goals (try dsimp only [laPu] at *)
  all_goals (try simp only [Int.toNat_natCast, Nat.zero_add] at *)
  all_goals (try omega)
  all_goals (try exact eq25)
  all_goals (try exact fi_0 rfl (by decide))
  all_goals (try (have hf := fi_end (p := neB (plK e.k)) (a := t.a) (y := x.2) (by assumption) (by assumption)))
  all_goals (try exact put_0 hf (by assumption))
  all_goals (try exact put_1 hf (by assumption) rfl ⟨by assumption, by assumption⟩ (fun r hr => by simp [acR, hr]) (by simp [acR, enR, plK]))
  all_goals (try omega)
  all_goals (have hi := (by assumption : FI (neB (plK e.k)) t.a x.1 x.2))
  all_goals first
    | exact fi_skip hi (by omega) (ne_f (mac_t (Classical.not_not.1 (by assumption)) (not_f (by assumption))))
    | exact fi_push hi (by omega) (ne_t (vid_ne (by assumption))) rfl ⟨by assumption, by assumption⟩ (fun r hr => by simp [acR, hr]) (by simp [acR])
    | exact fi_push hi (by omega) (ne_t (mac_f (not_t (by assumption)))) rfl ⟨by assumption, by assumption⟩ (fun r hr => by simp [acR, hr]) (by simp [acR])
    | fail
noncomputable def putS : ESpec Try.prog := newN fn34 (.s2 Lens.rt Lens.en) cxPu (fun x => some (RTw x.1)) putA (fun _ v _ => naRen v) (fun _ => rfl) (fun x a ha => by rw [List.mem_singleton.1 ha]; exact fun _ => rfl) pu_runs
end

end Go.Proofs.Ytnkmfkongmijfaa
