/-
  Contracts of functions, and plain facts about them, that a claim of this seat uses.
-/
import Derived.Test.YtlhlegjndembdaaSx
import Derived.Test.YtlhlegjndembdaaSeqN
import Derived.Test.YtlhlegjndembdaaSeqL
import Derived.Test.YtlhlegjndembdaaSeqA
import Derived.Test.YtlhlegjndembdaaSeqB
import Derived.Test.YtlhlegjndembdaaSeqC
import Derived.Test.YtlhlegjndembdaaSeqO
import Derived.Test.YtlhlegjndembdaaSeqP
import Derived.Test.YtlhlegjndembdaaProg
namespace Go.Proofs.Ytlhlegjndembdaa
open Go.Sx
set_option linter.unusedVariables false
set_option linter.unusedSimpArgs false
set_option maxRecDepth 100000

/-! the reference: In. -/
theorem qlt_l {m0 : Mem} {ρ : List Nat} {v : SV} {m : Mem} {p : Prop} {v2 : SV} {m2 : Mem} {b : Alt} {l : List Alt} (hp : p) (h : altOne m0 ρ v m v2 m2) : anyAlt m0 ρ v m (.cond p v2 m2 :: b :: l) := .inl ⟨hp, h⟩
theorem qlt_r {m0 : Mem} {ρ : List Nat} {v : SV} {m : Mem} {a b : Alt} {l : List Alt} (h : anyAlt m0 ρ v m (b :: l)) : anyAlt m0 ρ v m (a :: b :: l) := .inr h
theorem alt_m {m0 : Mem} {ρ : List Nat} {v : SV} {m : Mem} {p : Prop} {v2 : SV} {m2 : Mem} {a b : Alt} {l : List Alt} (hp : p) (h : altOne m0 ρ v m v2 m2) : anyAlt m0 ρ v m (a :: .cond p v2 m2 :: b :: l) := qlt_r (qlt_l hp h)
theorem alt_rr {m0 : Mem} {ρ : List Nat} {v : SV} {m : Mem} {a b c : Alt} {l : List Alt} (h : anyAlt m0 ρ v m (c :: l)) : anyAlt m0 ρ v m (a :: b :: c :: l) := qlt_r (qlt_r h)
theorem not_t {b : Bool} (h : (!b) = true) : b = false := by cases b <;> first | rfl | cases h
theorem not_f {b : Bool} (h : (!b) = false) : b = true := by cases b <;> first | rfl | cases h
def slI (j : Nat) (s : IS) : SA := .slc j 1 0 s.len s.cap
def rsC (s : Sq) (x : SA) : List SA := [i_ s.way, i_ s.len, i_ s.reset, .v (.bool s.any), i_ s.last, x, i_ s.wen, i_ s.k0, i_ s.k1, i_ s.k2, i_ s.k3, i_ s.resets, i_ s.lost]
def Lens.rs : Lens (Sq × IS) where
  sp := .agg [.i .i64, .i .i64, .i .i64, .b, .i .i64, .s [some .i64], .i .i64, .i .i64, .i .i64, .i .i64, .i .i64, .i .i64, .i .i64]
  pat := fun a => match a with | .agg [.i .i64 way, .i .i64 len, .i .i64 reset, .b any, .i .i64 last, .s l c n [.int .i64 g], .i .i64 wen, .i .i64 k0, .i .i64 k1, .i .i64 k2, .i .i64 k3, .i .i64 resets, .i .i64 lost] => some (⟨way, len, reset, any, last, 0, wen, k0, k1, k2, k3, resets, lost⟩, ⟨l, c, n, g⟩) | _ => none
  arg := fun x => .agg [.i .i64 x.1.way, .i .i64 x.1.len, .i .i64 x.1.reset, .b x.1.any, .i .i64 x.1.last, .s x.2.len x.2.cap x.2.N [.int .i64 x.2.g], .i .i64 x.1.wen, .i .i64 x.1.k0, .i .i64 x.1.k1, .i .i64 x.1.k2, .i .i64 x.1.k3, .i .i64 x.1.resets, .i .i64 x.1.lost]
  ok := fun a x h => by
    split at h
    · cases h; rfl
    · cases h
def nil1 : SA := .v (.slice none 0 0)
theorem ent1 : Ent (fun r => [(0 : Int)].getD r 0) 1 := fun i hi => by
  obtain rfl : i = 0 := by omega
  exact ⟨by decide, by decide⟩
theorem push_ent {g h : Nat → Int} {n : Nat} {v : Int} (hg : Ent g n) (e : ∀ i, i < n → h i = g i) (ev : h n = v) (hv : 0 ≤ v ∧ v < 64) : Ent h (n + 1) := fun i hi => by
  rcases Nat.lt_or_ge i n with h9 | h9
  · rw [e i h9]; exact hg i h9
  · obtain rfl : i = n := by omega
    rw [ev]; exact hv
/-- a list of at most n numbers of a window -/
def LOK (y : LS) (n : Nat) : Prop := y.len ≤ y.cap ∧ y.cap ≤ 9223372036854775807 ∧ y.len ≤ n ∧ Ent y.g y.len
def rO (x : (Sq × IS) × Int × Int) : RO := rW x.1.1 (hasN x.1.2.g x.1.2.len) x.2.1 x.2.2
def rinA (x : (Sq × IS) × Int × Int) : List Alt := [
  .cond ((rO x).kind = 0) (.tup [.agg (rsC (rO x).s (slI 0 x.1.2)), .a (i_ (rO x).w), .a (i_ (rO x).e)]) [roI x.1.2],
  .cond ((rO x).kind = 1) (.tup [.agg (rsC (rO x).s nil1), .a (i_ (rO x).w), .a (i_ (rO x).e)]) [roI x.1.2],
  .fam LS (fun y => (rO x).kind = 2 ∧ LOK y (x.1.2.len + 1) ∧ ∀ k, hasN y.g y.len k = (rO x).N k) (fun y => .tup [.agg (rsC (rO x).s (.slc 1 1 0 y.len y.cap)), .a (i_ (rO x).w), .a (i_ (rO x).e)]) (fun y => [roI x.1.2, rwI y.cap y.g])]
def rinRen (v : SV) : List Nat := match v with | .tup (.agg l :: _) => (match (l[5]? : Option SA) with | some (.slc i _ _ _ _) => (bif Nat.beq i 0 then [0] else [0, i]) | _ => [0]) | _ => [0]
structure RInOK (s : Sq) (L : IS) (now : Int) : Prop where
  s : SqOK s
  n : I6 now
  e : Ent L.g L.len
  m : L.len ≤ 1000
  sl : Sl L
def zRS : List SA := [i_ 0, i_ 0, i_ 0, .ff, i_ 0, nil1, i_ 0, i_ 0, i_ 0, i_ 0, i_ 0, i_ 0, i_ 0]
abbrev laO (s : Sq) (L : IS) (now q : Int) : LA where
  ι := Nat × LS
  inv := fun x => x.1 ≤ L.len ∧ (0 ≤ q ∧ q ≤ 65535) ∧ (0 < dR q s.last ∧ dR q s.last < s.len) ∧ (x.2.len ≤ x.2.cap ∧ x.2.cap ≤ 9223372036854775807 ∧ x.2.len ≤ x.1 + 1) ∧ Ent x.2.g x.2.len ∧ ∀ k, hasN x.2.g x.2.len k = sh L.g x.1 (dR q s.last) s.len k
  T := fun x => ⟨156, [(1, int_ .i64 now), (2, int_ .i64 q), (3, .one (.a (.ptr 1 0))), (6, .one (.a (.ptr 2 0))), (9, int_ .i64 0), (10, int_ .i64 (dR q s.last)), (11, .one (.a (.slc 3 1 0 x.2.len x.2.cap))), (41, D1 0 L), (42, int_ .i64 L.len), (43, int_ .i64 x.1)], [roI L, some ⟨true, .flat (rsC s (slI 0 L))⟩, some ⟨true, .flat zRS⟩, rwI x.2.cap x.2.g]⟩
  μ := fun x => L.len - x.1
  ren := fun S => [0, S.ix 3, S.ix 6, S.ix 11]
abbrev laX (s : Sq) (L : IS) (now q : Int) : LA where
  ι := Nat × LS
  inv := fun x => x.1 ≤ (dR q s.last).toNat ∧ (0 ≤ q ∧ q ≤ 65535) ∧ (0 < dR q s.last ∧ dR q s.last < s.len) ∧ (x.2.len ≤ x.2.cap ∧ x.2.cap ≤ 9223372036854775807 ∧ x.2.len ≤ L.len + 1) ∧ Ent x.2.g x.2.len ∧ ∀ k, hasN x.2.g x.2.len k = sh L.g L.len (dR q s.last) s.len k
  T := fun x => ⟨156, [(1, int_ .i64 now), (2, int_ .i64 q), (3, .one (.a (.ptr 1 0))), (6, .one (.a (.ptr 2 0))), (9, int_ .i64 0), (10, int_ .i64 (dR q s.last)), (11, .one (.a (.slc 3 1 0 x.2.len x.2.cap))), (14, int_ .i64 (s.len - dR q s.last + x.1))], [roI L, some ⟨true, .flat (rsC { s with lost := inc (cnt (hasN L.g L.len) (s.len - dR q s.last) x.1) s.lost } (slI 0 L))⟩, some ⟨true, .flat zRS⟩, rwI x.2.cap x.2.g]⟩
  μ := fun x => (dR q s.last).toNat - x.1
  ren := fun S => [0, S.ix 3, S.ix 6, S.ix 11]
noncomputable def cxRIn (s : Sq) (L : IS) (now q : Int) : Cx Try.prog := { ps := [hasS, aheadRS, longS], es := [], is := [inl fn25 cx00], n0 := 1, loops := fun i => match i with | 9 => some (.inv (laO s L now q)) | 15 => some (.inv (laX s L now q)) | _ => none, cuts := fun _ => none }
section
attribute [local irreducible] enter anyAlt Lex HeldOK
set_option maxHeartbeats 16000000 in
theorem rin_runs (x : (Sq × IS) × Int × Int) (hp : obp (some (RInOK x.1.1 x.1.2 x.2.1))) : Runs (cxRIn x.1.1 x.1.2 x.2.1 x.2.2) Try.f26 [.one (.agg (rsC x.1.1 (slI 0 x.1.2))), int_ .i64 x.2.1, int_ .i64 x.2.2] [roI x.1.2] fun v m => anyAlt [roI x.1.2] (rinRen v) v m (rinA x) := by
  have hr : RInOK x.1.1 x.1.2 x.2.1 := hp
  obtain ⟨⟨s, L⟩, now, q⟩ := x
  dsimp only at *
  obtain ⟨l1, l2, l3⟩ := hr.sl
  have hs := hr.s
  have y1 := hs.len
  have y2 := hs.reset
  have y3 := hs.last
  have y4 := hs.wen
  have y5 := hr.n
  have y6 := hr.m
  have y7 := hr.e
  unfold I6 at y4 y5
  have eH : ∀ k : Int, hasN (fun r => L.g (r + 0)) L.len k = hasN L.g L.len k := fun _ => rfl
  have eN : IntKind.i64.wrap (0 - s.len) = 0 - s.len := w64' (by omega) (by omega)
  have eD : 0 ≤ q ∧ q ≤ 65535 → IntKind.i64.wrap (0 - dR q s.last) = 0 - dR q s.last ∧ -32768 ≤ dR q s.last ∧ dR q s.last ≤ 32767 := fun h => by
    have := dR_bd h y3
    exact ⟨w64' (by omega) (by omega), this.1, this.2⟩
  have qB : (q < 0 ∨ 65535 < q) → rO ((s, L), now, q) = ⟨2, 1, s, 0, hasN L.g L.len⟩ := fun h => if_pos h
  have q1 : (0 ≤ q ∧ q ≤ 65535) → s.way = 1 → s.any = false → lgR s now → rO ((s, L), now, q) = ⟨0, 0, { s with last := q, k0 := IntKind.i64.wrap (s.k0 + 1), wen := now, any := false, resets := IntKind.i64.wrap (s.resets + 1) }, 1, hasN L.g L.len⟩ := fun h h1 h2 h3 => by
    show rW s _ now q = _
    unfold rW; rw [if_neg (by omega), if_pos h1, if_pos ⟨h2, h3⟩]
  have q2 : (0 ≤ q ∧ q ≤ 65535) → s.way = 1 → s.any = false → ¬ lgR s now → s.last = q → rO ((s, L), now, q) = ⟨1, 0, { s with k1 := IntKind.i64.wrap (s.k1 + 1) }, 0, hasN L.g L.len⟩ := fun h h1 h2 h3 h4 => by
    show rW s _ now q = _
    unfold rW; rw [if_neg (by omega), if_pos h1, if_neg (fun h9 => h3 h9.2), if_pos ⟨h2, h4⟩]
  have q3 : (0 ≤ q ∧ q ≤ 65535) → s.way = 1 → (s.any = true ∨ ¬ lgR s now ∧ ¬ s.last = q) → rO ((s, L), now, q) = ⟨0, 0, { s with last := q, k0 := IntKind.i64.wrap (s.k0 + 1), wen := now, any := false }, 0, hasN L.g L.len⟩ := fun h h1 h2 => by
    show rW s _ now q = _
    unfold rW; rw [if_neg (by omega), if_pos h1, if_neg (fun h9 => by rcases h2 with h2 | h2; exact absurd (h2.symm.trans h9.1) (by decide); exact h2.1 h9.2), if_neg (fun h9 => by rcases h2 with h2 | h2; exact absurd (h2.symm.trans h9.1) (by decide); exact h2.2 h9.2)]
  have q4 : (0 ≤ q ∧ q ≤ 65535) → ¬ s.way = 1 → s.any = true → rO ((s, L), now, q) = ⟨0, 0, { s with last := q, k0 := IntKind.i64.wrap (s.k0 + 1), wen := now, any := false }, 2, fun k => decide (k = 0)⟩ := fun h h1 h2 => by
    show rW s _ now q = _
    unfold rW; rw [if_neg (by omega), if_neg h1, if_pos h2]
  have nA : s.any = false → ¬ s.any = true := fun h1 h2 => absurd (h1.symm.trans h2) (by decide)
  have q5 : (0 ≤ q ∧ q ≤ 65535) → ¬ s.way = 1 → s.any = false → lgR s now → rO ((s, L), now, q) = ⟨0, 0, { s with last := q, k0 := IntKind.i64.wrap (s.k0 + 1), wen := now, any := false, resets := IntKind.i64.wrap (s.resets + 1) }, 2, fun k => decide (k = 0)⟩ := fun h h1 h2 h3 => by
    show rW s _ now q = _
    unfold rW; rw [if_neg (by omega), if_neg h1, if_neg (nA h2), if_pos h3]
  have q6 : (0 ≤ q ∧ q ≤ 65535) → ¬ s.way = 1 → s.any = false → ¬ lgR s now → (s.len ≤ dR q s.last ∨ dR q s.last ≤ 0 - s.len) → rO ((s, L), now, q) = ⟨2, 0, { s with k2 := IntKind.i64.wrap (s.k2 + 1) }, 0, hasN L.g L.len⟩ := fun h h1 h2 h3 h4 => by
    show rW s _ now q = _
    unfold rW; rw [if_neg (by omega), if_neg h1, if_neg (nA h2), if_neg h3, if_pos h4]
  have q7 : (0 ≤ q ∧ q ≤ 65535) → ¬ s.way = 1 → s.any = false → ¬ lgR s now → ¬ (s.len ≤ dR q s.last ∨ dR q s.last ≤ 0 - s.len) → dR q s.last ≤ 0 → hasN L.g L.len (0 - dR q s.last) = true → rO ((s, L), now, q) = ⟨1, 0, { s with k1 := IntKind.i64.wrap (s.k1 + 1) }, 0, hasN L.g L.len⟩ := fun h h1 h2 h3 h4 h5 h6 => by
    show rW s _ now q = _
    unfold rW; rw [if_neg (by omega), if_neg h1, if_neg (nA h2), if_neg h3, if_neg h4, if_pos h5, if_pos h6]
  have q8 : (0 ≤ q ∧ q ≤ 65535) → ¬ s.way = 1 → s.any = false → ¬ lgR s now → ¬ (s.len ≤ dR q s.last ∨ dR q s.last ≤ 0 - s.len) → dR q s.last ≤ 0 → hasN L.g L.len (0 - dR q s.last) = false → rO ((s, L), now, q) = ⟨3, 0, { s with k3 := IntKind.i64.wrap (s.k3 + 1), wen := now, any := false }, 2, fun k => hasN L.g L.len k || decide (0 - dR q s.last = k)⟩ := fun h h1 h2 h3 h4 h5 h6 => by
    show rW s _ now q = _
    unfold rW; rw [if_neg (by omega), if_neg h1, if_neg (nA h2), if_neg h3, if_neg h4, if_pos h5, if_neg (by rw [h6]; decide)]
  have q9 : (0 ≤ q ∧ q ≤ 65535) → ¬ s.way = 1 → s.any = false → ¬ lgR s now → ¬ (s.len ≤ dR q s.last ∨ dR q s.last ≤ 0 - s.len) → ¬ dR q s.last ≤ 0 → rO ((s, L), now, q) = ⟨0, 0, { s with last := q, lost := inc (cnt (hasN L.g L.len) (s.len - dR q s.last) (dR q s.last).toNat) s.lost, k0 := IntKind.i64.wrap (s.k0 + 1), wen := now, any := false }, 2, fun k => decide (k = 0) || (hasN L.g L.len (k - dR q s.last) && decide (k < s.len))⟩ := fun h h1 h2 h3 h4 h5 => by
    show rW s _ now q = _
    unfold rW; rw [if_neg (by omega), if_neg h1, if_neg (nA h2), if_neg h3, if_neg h4, if_neg h5]
  repeat' (first | with_reducible exact trivial | with_reducible exact rfl | with_reducible exact Nat.le_refl _ | with_reducible exact (fun _ _ => rfl) | ((conv => whnf); first | (refine fun (x : Nat × LS) => ?_) | (exact fun h => absurd h (by decide)) | (intro h9; (have h8 := of_decide_eq_true (p := type_of% h9) (by decide)); clear h8 h9) | (refine fun _ => ?_) | refine ⟨?_, ?_⟩ | exact trivial | exact Nat.le_refl _ | exact lex_q (by kernel_rfl) | exact lex_t (by kernel_rfl) | exact lex_h (by kernel_rfl) | fail))
  all_goals (try exact absurd ((not_t (by assumption : (!s.any) = true)).symm.trans (by assumption : s.any = true)) (by decide))
  all_goals (try exact absurd ((not_f (by assumption : (!s.any) = false)).symm.trans (by assumption : s.any = false)) (by decide))
  all_goals (try exact absurd ((not_t (by assumption : (!s.any) = true)).symm.trans (not_f (by assumption : (!s.any) = false))) (by decide))
  all_goals (try (have hi := (by assumption : (laO s L now q).inv x); dsimp only [laO] at hi; obtain ⟨i1, i2, i3, i4, i5, i6⟩ := hi))
  all_goals (try (have hi := (by assumption : (laX s L now q).inv x); dsimp only [laX] at hi; obtain ⟨i1, i2, i3, i4, i5, i6⟩ := hi))
  all_goals (try dsimp only [laO, laX, cutR, cutL, id] at *)
  all_goals (try simp only [Int.toNat_natCast, Nat.zero_add, eH, eN] at *)
  all_goals (try omega)
  all_goals (try (have hqq : 0 ≤ q ∧ q ≤ 65535 := by omega))
  all_goals (try (have hdd := eD hqq))
  all_goals (try simp only [hdd.1] at *)
  all_goals (try simp (disch := omega) only [w64'] at *)
  all_goals (try omega)
  all_goals (try (have hy : s.any = false := by first | assumption | exact not_t (by assumption)))
  all_goals (try (have hy : s.any = true := by first | assumption | exact not_f (by assumption)))
  all_goals (try (have hlg : lgR s now := of_decide_eq_true (by assumption)))
  all_goals (try (have hlg : ¬ lgR s now := of_decide_eq_false (by assumption)))
  all_goals (try (have hf : hasN L.g L.len (s.len - dR q s.last + x.1) = false := not_t (by assumption)))
  all_goals (try (have hf : hasN L.g L.len (s.len - dR q s.last + x.1) = true := not_f (by assumption)))
  any_goals first
    | (refine enter_mk (la := laO s L now q) (0, ⟨_, _, _⟩) ?_ (by (repeat' (first | ((conv => whnf); first | refine ⟨?_, ?_⟩ | exact trivial | fail) | (dsimp only; done) | ((try dsimp only); first | with_reducible exact rfl | exact Nat.le_refl _ | with_reducible exact (fun _ _ => rfl)))); first | ((all_goals ((try dsimp only [laO] at *); (all_goals (try simp (disch := omega) only [w64', wu64', tdiv_pos, tmod_pos, Int.toNat_natCast, Nat.zero_add] at *)); (all_goals ((first | rfl | omega))))); done) | fail))
    | (refine enter_mk (la := laO s L now q) (x.1 + 1, ⟨_, _, _⟩) ?_ (by (repeat' (first | ((conv => whnf); first | refine ⟨?_, ?_⟩ | exact trivial | fail) | (dsimp only; done) | ((try dsimp only); first | with_reducible exact rfl | exact Nat.le_refl _ | with_reducible exact (fun _ _ => rfl)))); first | ((all_goals ((try dsimp only [laO] at *); (all_goals (try simp (disch := omega) only [w64', wu64', tdiv_pos, tmod_pos, Int.toNat_natCast, Nat.zero_add] at *)); (all_goals ((first | rfl | omega | (rw [w64' (by omega) (by omega)]; omega)))))); done) | fail))
    | (refine enter_mk (la := laX s L now q) (0, x.2) ?_ (by (repeat' (first | ((conv => whnf); first | refine ⟨?_, ?_⟩ | exact trivial | fail) | (dsimp only; done) | ((try dsimp only); first | with_reducible exact rfl | exact Nat.le_refl _ | with_reducible exact (fun _ _ => rfl)))); first | ((all_goals ((try dsimp only [laX] at *); (all_goals (try simp (disch := omega) only [w64', wu64', tdiv_pos, tmod_pos, Int.toNat_natCast, Nat.zero_add] at *)); (all_goals ((first | rfl | omega | (rw [w64' (by omega) (by omega)]; omega)))))); done) | fail))
    | (refine enter_mk (la := laX s L now q) (x.1 + 1, x.2) ?_ (by (repeat' (first | ((conv => whnf); first | refine ⟨?_, ?_⟩ | exact trivial | fail) | (dsimp only; done) | ((try dsimp only); first | with_reducible exact rfl | exact Nat.le_refl _ | with_reducible exact (fun _ _ => rfl)))); first | ((all_goals ((try dsimp only [laX] at *); (all_goals (try simp (disch := omega) only [w64', wu64', tdiv_pos, tmod_pos, Int.toNat_natCast, Nat.zero_add] at *)); (all_goals ((first | rfl | omega | (rw [w64' (by omega) (by omega)]; omega) | exact inc_no hf | exact (inc_no hf).symm | exact inc_yes hf | exact (inc_yes hf).symm))))); done) | fail))
    | skip
  all_goals (try exact ⟨Nat.zero_le _, hqq, ⟨by omega, by omega⟩, ⟨Nat.le_refl _, by decide, Nat.le_refl _⟩, ent1, fun k => by rw [sh_zero]; exact one_has rfl k⟩)
  all_goals (try exact ⟨Nat.zero_le _, i2, i3, ⟨i4.1, i4.2.1, by have h8 := i4.2.2; (try dsimp only); omega⟩, i5, fun k => by rw [i6 k, show x.1 = L.len by omega]⟩)
  all_goals (try exact ⟨(by omega : x.1 + 1 ≤ (dR q s.last).toNat), i2, i3, i4, i5, i6⟩)
  all_goals (try (have he := y7 x.1 (by omega); have hw : IntKind.i64.wrap (L.g x.1 + dR q s.last) = L.g x.1 + dR q s.last := w64' (by omega) (by omega); simp only [hw] at *))
  all_goals (try exact ⟨(by omega : x.1 + 1 ≤ L.len), i2, i3, ⟨i4.1, i4.2.1, by have h8 := i4.2.2; (try dsimp only); omega⟩, i5, fun k => by rw [i6 k, sh_skip (by omega)]⟩)
  all_goals (try exact ⟨(by omega : x.1 + 1 ≤ L.len), i2, i3, ⟨by assumption, by assumption, by have h8 := i4.2.2; omega⟩, push_ent (v := L.g x.1 + dR q s.last) i5 (fun r hr => by simp [hr]) (by simp) ⟨by omega, by omega⟩, fun k => (hasN_push (g := x.2.g) (v := L.g x.1 + dR q s.last) (fun r hr => by simp [hr]) (by simp)).trans (by rw [i6 k, sh_take (by omega)])⟩)
  all_goals (try (have ein := qB (by omega)))
  all_goals (try (have ein := q1 hqq (by assumption) hy hlg))
  all_goals (try (have ein := q2 hqq (by assumption) hy hlg (by assumption)))
  all_goals (try (have ein := q3 hqq (by assumption) (.inl hy)))
  all_goals (try (have ein := q3 hqq (by assumption) (.inr ⟨hlg, by assumption⟩)))
  all_goals (try (have ein := q4 hqq (by assumption) hy))
  all_goals (try (have ein := q5 hqq (by assumption) hy hlg))
  all_goals (try (have ein := q6 hqq (by assumption) hy hlg (by omega)))
  all_goals (try (have ein := q7 hqq (by assumption) hy hlg (by omega) (by omega) (by assumption)))
  all_goals (try (have ein := q8 hqq (by assumption) hy hlg (by omega) (by omega) (by assumption)))
  all_goals (try (have ein := q9 hqq (by assumption) hy hlg (by omega) (by omega)))
  all_goals (try (have hx : (dR q s.last).toNat = x.1 := by omega
                  simp only [hx] at ein))
  any_goals first
    | (refine qlt_l ?_ (by (repeat' (first | with_reducible exact rfl | exact Nat.le_refl _ | with_reducible exact (fun _ _ => rfl) | ((conv => whnf); first | refine ⟨?_, ?_⟩ | exact trivial | fail))); first | ((all_goals ((try dsimp only [id] at *); (all_goals (try simp (disch := omega) only [w64', wu64', tdiv_pos, tmod_pos, Int.toNat_natCast, Nat.zero_add] at *)); (all_goals ((first | rfl | omega | (rw [ein]; done) | (rw [ein]; rfl)))))); done) | fail))
    | (refine alt_m ?_ (by (repeat' (first | with_reducible exact rfl | exact Nat.le_refl _ | with_reducible exact (fun _ _ => rfl) | ((conv => whnf); first | refine ⟨?_, ?_⟩ | exact trivial | fail))); first | ((all_goals ((try dsimp only [id] at *); (all_goals (try simp (disch := omega) only [w64', wu64', tdiv_pos, tmod_pos, Int.toNat_natCast, Nat.zero_add] at *)); (all_goals ((first | rfl | omega | (rw [ein]; done) | (rw [ein]; rfl)))))); done) | fail))
    | (refine alt_rr (alt_fam (α := LS) x.2 ?_ (by (repeat' (first | with_reducible exact rfl | exact Nat.le_refl _ | with_reducible exact (fun _ _ => rfl) | ((conv => whnf); first | refine ⟨?_, ?_⟩ | exact trivial | fail))); first | ((all_goals ((try dsimp only [id] at *); (all_goals (try simp (disch := omega) only [w64', wu64', tdiv_pos, tmod_pos, Int.toNat_natCast, Nat.zero_add] at *)); (all_goals ((first | rfl | omega | (rw [ein]; done) | (rw [ein]; rfl)))))); done) | fail)))
    | (refine alt_rr (alt_fam (α := LS) ⟨_, _, _⟩ ?_ (by (repeat' (first | with_reducible exact rfl | exact Nat.le_refl _ | with_reducible exact (fun _ _ => rfl) | ((conv => whnf); first | refine ⟨?_, ?_⟩ | exact trivial | fail))); first | ((all_goals ((try dsimp only [id] at *); (all_goals (try simp (disch := omega) only [w64', wu64', tdiv_pos, tmod_pos, Int.toNat_natCast, Nat.zero_add] at *)); (all_goals ((first | rfl | omega | (rw [ein]; done) | (rw [ein]; rfl)))))); done) | fail)))
    | skip
  all_goals (try rw [ein])
  all_goals (try exact ⟨rfl, ⟨i4.1, i4.2.1, i4.2.2, i5⟩, fun k => i6 k⟩)
  all_goals (try exact ⟨rfl, ⟨Nat.le_refl _, by decide, Nat.succ_le_succ (Nat.zero_le _), ent1⟩, fun k => one_has rfl k⟩)
  all_goals (try exact ⟨rfl, ⟨by assumption, by assumption, Nat.le_refl _, push_ent (v := 0 - dR q s.last) y7 (fun r hr => by simp [hr]) (by simp) ⟨by omega, by omega⟩⟩, fun k => hasN_push (g := L.g) (v := 0 - dR q s.last) (fun r hr => by simp [hr]) (by simp)⟩)
end
noncomputable def rinS : ESpec Try.prog := newN fn26 (.s3 Lens.rs (.int .i64) (.int .i64)) (fun x => cxRIn x.1.1 x.1.2 x.2.1 x.2.2) (fun x => some (RInOK x.1.1 x.1.2 x.2.1)) rinA (fun _ v _ => rinRen v) (fun _ => rfl) (fun x a ha => by
  rcases List.mem_cons.1 ha with rfl | ha
  · exact rfl
  · rcases List.mem_cons.1 ha with rfl | ha
    · exact rfl
    · rw [List.mem_singleton.1 ha]; exact fun _ => rfl) rin_runs

end Go.Proofs.Ytlhlegjndembdaa
