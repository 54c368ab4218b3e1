/-
  Contracts of functions, and plain facts about them, that a claim of this seat uses.
-/
import Derived.Test.YtaadejgoafdbcaaSx
import Derived.Test.YtaadejgoafdbcaaPRefA
import Derived.Test.YtaadejgoafdbcaaProg
namespace Go.Proofs.Ytaadejgoafdbcaa
open Go.Sx
set_option linter.unusedVariables false
set_option linter.unusedSimpArgs false
set_option maxRecDepth 100000

/-! port's law: the reference's Pieces, Stay, Turn. -/
theorem fn37 : FnOf Try.prog 37 Try.f37 := ⟨Try.func37, rfl, rfl, mixed⟩
theorem fn22 : FnOf Try.prog 22 Try.f22 := ⟨Try.func22, rfl, rfl, mixed⟩
attribute [local irreducible] enter anyAlt Gw
/-- where piece i begins; the cycle's end behind the last -/
def pzAt (l : GL) (i : Nat) : Int := if i = l.len then l.cyc else psum l.ln i
structure CP where
  cap : Nat
  fr : Nat → Int
  to : Nat → Int
  op : Nat → Int
abbrev PS (n : Nat) (l : GL) (y : CP) : Prop := n ≤ y.cap ∧ y.cap ≤ 9223372036854775807 ∧ ∀ r, r < n → y.fr r = psum l.ln r ∧ y.to r = endE l r ∧ y.op r = l.op r
def rwP (y : CP) : Option Reg := some ⟨true, .tab y.cap [.int .i64 y.fr, .int .i64 y.to, .int .i64 y.op]⟩
def piecesA (l : GL) : List Alt := [.fam CP (PS l.len l) (fun y => .one (.a (.slc 1 3 0 l.len y.cap))) (fun y => [roG l, rwP y])]
structure PZ where
  i : Nat
  at_ : Int
  y : CP
abbrev laPieces (l : GL) : LA where
  ι := PZ
  inv := fun x => x.i ≤ l.len ∧ x.at_ = pzAt l x.i ∧ PS x.i l x.y
  T := fun x => ⟨40, [(1, .one (.a (.ptr 1 0))), (3, .one (.a (.slc 2 3 0 x.i x.y.cap))), (4, int_ .i64 x.at_), (10, .one (.a (.slc 0 2 0 l.len l.cap))), (11, int_ .i64 l.len), (12, int_ .i64 x.i)], [roG l, some ⟨true, .flat (glCells 0 l)⟩, rwP x.y]⟩
  μ := fun x => l.len - x.i
  ren := fun S => [0, S.ix 1, S.ix 3]
noncomputable def cxPieces (l : GL) : Cx Try.prog := { ps := [], es := [], is := [], n0 := 1, loops := fun i => match i with | 4 => some (.inv (laPieces l)) | _ => none, cuts := fun _ => none }
theorem papp_at {n : Nat} {l : GL} {y : CP} (h : PS n l y) {r : Nat} (hr : r < n + 1) {a b c : Int} {s t u : Nat → Int} (ha : a = psum l.ln n) (hb : b = endE l n) (hc : c = l.op n) :
    (if r < n then y.fr r else if r < n + 1 then [a].getD (r - n) 0 else s r) = psum l.ln r ∧ (if r < n then y.to r else if r < n + 1 then [b].getD (r - n) 0 else t r) = endE l r ∧ (if r < n then y.op r else if r < n + 1 then [c].getD (r - n) 0 else u r) = l.op r := by
  rcases Nat.lt_or_ge r n with h9 | h9
  · rw [if_pos h9, if_pos h9, if_pos h9]; exact h.2.2 r h9
  · obtain rfl : r = n := by omega
    rw [if_neg (Nat.lt_irrefl r), if_pos hr, if_neg (Nat.lt_irrefl r), if_pos hr, if_neg (Nat.lt_irrefl r), if_pos hr, Nat.sub_self]; exact ⟨ha, hb, hc⟩
set_option maxHeartbeats 8000000 in
theorem pieces_runs (l : GL) (hp : obp (some (Gw l ∧ chk l = 0))) : Runs (cxPieces l) Try.f37 [G1 0 l] [roG l] fun v m => anyAlt [roG l] [0, v.ix] v m (piecesA l) := by
  obtain ⟨hw, ho⟩ : Gw l ∧ chk l = 0 := hp
  have ok := chk_ok ho
  obtain ⟨o1, o2, o3, o4, o5, o6⟩ : _ ∧ _ ∧ _ ∧ _ ∧ _ ∧ _ := ⟨ok.n1, ok.n2, ok.c1, ok.c2, ok.b1, ok.b2⟩
  obtain ⟨_, _, h1, h2, h3, h4⟩ := hw.out
  repeat' (first | with_reducible exact trivial | with_reducible exact rfl | with_reducible exact Nat.le_refl _ | with_reducible exact (fun _ _ => rfl) | ((conv => whnf); first | (refine fun (x : PZ) => ?_) | (refine fun _ => ?_) | refine ⟨?_, ?_⟩ | exact trivial | exact Nat.le_refl _ | exact lex_q (by kernel_rfl) | exact lex_t (by kernel_rfl) | exact lex_h (by kernel_rfl) | fail))
  any_goals first
    | (refine enter_mk (la := laPieces l) ⟨0, 0, ⟨_, _, _, _⟩⟩ ?_ (by (repeat' (first | ((conv => whnf); first | refine ⟨?_, ?_⟩ | exact trivial | fail) | (dsimp only; done) | ((try dsimp only); first | with_reducible exact rfl | exact Nat.le_refl _ | with_reducible exact (fun _ _ => rfl)))); first | ((all_goals ((try dsimp only [laPieces] at *); (all_goals (try simp (disch := omega) only [w64', wu64', tdiv_pos, tmod_pos, Int.toNat_natCast, Nat.zero_add] at *)); (all_goals (omega)))); done) | fail))
    | (refine enter_mk (la := laPieces l) ⟨x.i + 1, _, ⟨_, _, _, _⟩⟩ ?_ (by (repeat' (first | ((conv => whnf); first | refine ⟨?_, ?_⟩ | exact trivial | fail) | (dsimp only; done) | ((try dsimp only); first | with_reducible exact rfl | exact Nat.le_refl _ | with_reducible exact (fun _ _ => rfl)))); first | ((all_goals ((try dsimp only [laPieces] at *); (all_goals (try simp (disch := omega) only [w64', wu64', tdiv_pos, tmod_pos, Int.toNat_natCast, Nat.zero_add] at *)); (all_goals ((first | omega | (rw [w64' (by omega) (by omega)]; omega)))))); done) | fail))
    | (refine alt_fam (α := CP) ⟨_, _, _, _⟩ ?_ (by (repeat' (first | with_reducible exact rfl | exact Nat.le_refl _ | with_reducible exact (fun _ _ => rfl) | ((conv => whnf); first | refine ⟨?_, ?_⟩ | exact trivial | fail))); first | ((all_goals ((try dsimp only [id] at *); (all_goals (try simp (disch := omega) only [w64', wu64', tdiv_pos, tmod_pos, Int.toNat_natCast, Nat.zero_add] at *)); (all_goals (omega)))); done) | fail))
    | fail
  all_goals (try dsimp only [laPieces] at *)
  all_goals (try simp (disch := omega) only [fdiv_nn, Int.reduceToNat, IntKind.bits, Nat.min_def, Nat.reduceLeDiff, if_true, if_false, Int.reducePow, wu8, wu32, w64', wu64', tdiv_pos, tmod_pos, Int.toNat_natCast, Nat.zero_add] at *)
  all_goals (try omega)
  all_goals (try (have hx := (by assumption : x.i ≤ l.len ∧ _); obtain ⟨g1, g2, g3⟩ := hx))
  all_goals first
    | exact g3.1
    | exact g3.2.1
    | exact ⟨Nat.zero_le _, (by unfold pzAt; exact (if_neg (show ¬ 0 = l.len by omega)).symm), Nat.zero_le _, Nat.zero_le _, fun r hr => absurd hr (Nat.not_lt_zero r)⟩
    | (rw [show l.len = x.i by omega]; exact g3)
    | (have hi : x.i < l.len := by omega
       have e0 : x.at_ = psum l.ln x.i := by rw [g2]; unfold pzAt; rw [if_neg (by omega)]
       have e9 : psum l.ln (x.i + 1) = psum l.ln x.i + l.ln x.i := rfl
       have s1 := ok.sum (x.i + 1) hi
       have s2 := psum_le ok.ln (i := 0) (j := x.i) (by omega) (by omega)
       have s3 := ok.ln x.i hi
       have s0 : psum l.ln 0 = 0 := rfl
       have ew : IntKind.i64.wrap (x.at_ + l.ln x.i) = psum l.ln (x.i + 1) := by rw [w64' (by omega) (by omega), e0]; rfl
       try rw [ew]
       refine ⟨hi, ?_, by assumption, by assumption, fun r hr => papp_at g3 hr e0 ?_ rfl⟩
       · unfold pzAt
         first
         | (rw [if_pos (by omega)]; done)
         | (rw [if_neg (by omega)]; done)
       · unfold endE
         first
         | (rw [if_pos (by omega)]; done)
         | (rw [if_neg (by omega)]; done))
noncomputable def piecesS : ESpec Try.prog := newN fn37 (.s1 Lens.gl) cxPieces (fun l => some (Gw l ∧ chk l = 0)) piecesA (fun _ v _ => [0, v.ix]) (fun _ => rfl) (fun x a ha => by rw [List.mem_singleton.1 ha]; exact fun _ => rfl) pieces_runs
structure SZ where
  i : Nat
  y : CP
theorem gAt_piece {l : GL} (ok : GOk l) {k t m : Int} {i : Nat} (hi : i < l.len) (h1 : psum l.ln i ≤ m) (h2 : m < endE l i) : gAt l k (t * l.cyc + m) = l.op i / 2 ^ k.toNat % 2 := by
  have h3 : endE l i ≤ l.cyc := by
    unfold endE
    split
    · exact Int.le_refl _
    · exact ok.sum (i + 1) hi
  have h4 := psum_le ok.ln (i := 0) (j := i) (Nat.zero_le _) (Nat.le_of_lt hi)
  have h5 : psum l.ln 0 = 0 := rfl
  unfold gAt
  rw [Int.add_comm, Int.mul_comm, Int.add_mul_emod_self_left, Int.emod_eq_of_lt (a := m) (by omega) (by omega), ok.uniq (p := m) ⟨by omega, by omega⟩ hi h1 h2]
theorem g_01z {z : Int} : z % 2 = 0 ∨ z % 2 = 1 := by omega
def oI (o : Bool) : Int := if o = true then 1 else 0
theorem bit_o {g : Int} {o : Bool} (h : g = 0 ∨ g = 1) : (decide (g = 1) = o) ↔ g = oI o := by
  unfold oI
  rcases h with h | h <;> subst h <;> cases o <;> simp
theorem stay_val {l : GL} {p k o F E : Int} (hp : 0 ≤ p) (hc : 0 ≤ l.cyc) (hall : ∀ q, p ≤ q → q < F → gAt l k q = o) (hE : p < E) (hF : F < E) (hne : ∀ q, F ≤ q → q < E → gAt l k q ≠ o) :
    stayV l p k o = if 2 * l.cyc < (if F - p < 0 then 0 else F - p) then 2 * l.cyc else (if F - p < 0 then 0 else F - p) := by
  apply IsStay.val _ hc
  by_cases h1 : F - p < 0
  · rw [if_pos h1, if_neg (by omega)]
    exact ⟨Int.le_refl _, by omega, fun j h5 h6 => by omega, fun _ => hne _ (by omega) (by omega)⟩
  · rw [if_neg h1]
    by_cases h2 : 2 * l.cyc < F - p
    · rw [if_pos h2]
      exact ⟨by omega, by omega, fun j h5 h6 => hall _ (by omega) (by omega), fun h9 => absurd h9 (by omega)⟩
    · rw [if_neg h2]
      exact ⟨by omega, by omega, fun j h5 h6 => hall _ (by omega) (by omega), fun _ => hne _ (by omega) (by omega)⟩
theorem pz_next {l : GL} {i : Nat} (h : i < l.len) : pzAt l (i + 1) = endE l i := by
  unfold pzAt endE
  by_cases h9 : i + 1 = l.len
  · rw [if_pos h9, if_pos (by omega)]
  · rw [if_neg h9, if_neg (by omega)]
theorem tc_bd {x : Nat} {c : Int} (hx : x ≤ 4) (c1 : 1 ≤ c) (c2 : c ≤ 1073741824) : 0 ≤ (x : Int) * c ∧ (x : Int) * c ≤ 4294967296 := by
  rcases (by omega : x = 0 ∨ x = 1 ∨ x = 2 ∨ x = 3 ∨ x = 4) with h | h | h | h | h <;> subst h <;> omega
theorem piece_bd {l : GL} (ok : GOk l) {i : Nat} (hi : i < l.len) : 0 ≤ psum l.ln i ∧ psum l.ln i < endE l i ∧ endE l i ≤ l.cyc := by
  have h4 := psum_le ok.ln (i := 0) (j := i) (Nat.zero_le _) (Nat.le_of_lt hi)
  have h5 : psum l.ln 0 = 0 := rfl
  have h6 := ok.ln i hi
  have h7 := ok.sum (i + 1) hi
  have h8 : psum l.ln (i + 1) = psum l.ln i + l.ln i := rfl
  unfold endE
  split <;> omega
abbrev laRSO (l : GL) (p k : Int) (o : Bool) : LA where
  ι := Nat
  inv := fun t => t ≤ 4 ∧ ∀ q, p ≤ q → q < (t : Int) * l.cyc → gAt l k q = oI o
  T := fun t => ⟨66, [(2, int_ .i64 k), (3, .one (.a (.v (.bool o)))), (4, .one (.a (.ptr 1 0))), (9, int_ .i64 p), (10, int_ .i64 t)], [roG l, some ⟨true, .flat (glCells 0 l)⟩]⟩
  μ := fun t => 4 - t
  ren := fun S => [0, S.ix 4]
abbrev laRSI (l : GL) (p k : Int) (o : Bool) (t : Int) : LA where
  ι := SZ
  inv := fun x => x.i ≤ l.len ∧ PS l.len l x.y ∧ ∀ q, p ≤ q → q < t * l.cyc + pzAt l x.i → gAt l k q = oI o
  T := fun x => ⟨66, [(2, int_ .i64 k), (3, .one (.a (.v (.bool o)))), (4, .one (.a (.ptr 1 0))), (9, int_ .i64 p), (10, int_ .i64 t), (23, .one (.a (.slc 2 3 0 l.len x.y.cap))), (24, int_ .i64 l.len), (25, int_ .i64 x.i)], [roG l, some ⟨true, .flat (glCells 0 l)⟩, rwP x.y]⟩
  μ := fun x => l.len - x.i
  ren := fun S => [0, S.ix 4, S.ix 23]
noncomputable def cxRSy (x : GL × Int × Int × Bool) : Cx Try.prog := { ps := [rphS, bitS], es := [piecesS], is := [], n0 := 1, loops := fun i => match i with | 3 => some (.inv (laRSO x.1 (phV x.1 x.2.1) x.2.2.1 x.2.2.2)) | 6 => some (.here 10 (laRSI x.1 (phV x.1 x.2.1) x.2.2.1 x.2.2.2)) | _ => none, cuts := fun _ => none }
set_option maxHeartbeats 8000000 in
theorem rsy_runs (x : GL × Int × Int × Bool) (hp : obp (some (Gw x.1 ∧ chk x.1 = 0 ∧ inR x.2.1 ∧ gateR x.2.2.1))) : Runs (cxRSy x) Try.f22 [G1 0 x.1, int_ .i64 x.2.1, int_ .i64 x.2.2.1, .one (.a (.v (.bool x.2.2.2)))] [roG x.1] fun v _ => isRes (int_ .i64 (stayV x.1 (phV x.1 x.2.1) x.2.2.1 (oI x.2.2.2))) v := by
  obtain ⟨l, a, k, o⟩ := x
  obtain ⟨hw, ho, hr, hk⟩ : Gw l ∧ chk l = 0 ∧ inR a ∧ gateR k := hp
  have hself := hw.self
  have ok := chk_ok ho
  obtain ⟨o1, o2, o3, o4, o5, o6⟩ : _ ∧ _ ∧ _ ∧ _ ∧ _ ∧ _ := ⟨ok.n1, ok.n2, ok.c1, ok.c2, ok.b1, ok.b2⟩
  obtain ⟨_, _, h1, h2, h3, h4⟩ := hw.out
  have p0 : 0 ≤ phV l a := Int.emod_nonneg (a - l.base) (show l.cyc ≠ 0 by omega)
  have p1 : phV l a < l.cyc := Int.emod_lt_of_pos (a - l.base) (show 0 < l.cyc by omega)
  unfold gateR at hk
  repeat' (first | with_reducible exact trivial | with_reducible exact rfl | with_reducible exact Nat.le_refl _ | with_reducible exact (fun _ _ => rfl) | ((conv => whnf); first | (refine fun (x : Nat) => ?_) | (refine fun (y : CP) => ?_) | (refine fun (z : SZ) => ?_) | (refine fun _ => ?_) | refine ⟨?_, ?_⟩ | exact trivial | exact Nat.le_refl _ | exact lex_q (by kernel_rfl) | exact lex_t (by kernel_rfl) | exact lex_h (by kernel_rfl) | fail))
  any_goals first
    | (refine enter_mk (la := laRSO l (phV l a) k o) 0 ?_ (by (repeat' (first | ((conv => whnf); first | refine ⟨?_, ?_⟩ | exact trivial | fail) | (dsimp only; done) | ((try dsimp only); first | with_reducible exact rfl | exact Nat.le_refl _ | with_reducible exact (fun _ _ => rfl)))); first | ((all_goals ((try dsimp only [laRSO] at *); (all_goals (try simp (disch := omega) only [w64', wu64', tdiv_pos, tmod_pos, Int.toNat_natCast, Nat.zero_add] at *)); (all_goals ((first | rfl | omega))))); done) | fail))
    | (refine enter_mk (la := laRSI l (phV l a) k o _) ⟨0, ⟨_, _, _, _⟩⟩ ?_ (by (repeat' (first | ((conv => whnf); first | refine ⟨?_, ?_⟩ | exact trivial | fail) | (dsimp only; done) | ((try dsimp only); first | with_reducible exact rfl | exact Nat.le_refl _ | with_reducible exact (fun _ _ => rfl)))); first | ((all_goals ((try dsimp only [laRSI] at *); (all_goals (try simp (disch := omega) only [w64', wu64', tdiv_pos, tmod_pos, Int.toNat_natCast, Nat.zero_add] at *)); (all_goals ((first | rfl | omega))))); done) | fail))
    | (refine enter_mk (la := laRSI l (phV l a) k o _) ⟨z.i + 1, ⟨_, _, _, _⟩⟩ ?_ (by (repeat' (first | ((conv => whnf); first | refine ⟨?_, ?_⟩ | exact trivial | fail) | (dsimp only; done) | ((try dsimp only); first | with_reducible exact rfl | exact Nat.le_refl _ | with_reducible exact (fun _ _ => rfl)))); first | ((all_goals ((try dsimp only [laRSI] at *); (all_goals (try simp (disch := omega) only [w64', wu64', tdiv_pos, tmod_pos, Int.toNat_natCast, Nat.zero_add] at *)); (all_goals ((first | rfl | omega | (rw [w64' (by omega) (by omega)]; omega)))))); done) | fail))
    | (refine enter_mk (la := laRSO l (phV l a) k o) (x + 1) ?_ (by (repeat' (first | ((conv => whnf); first | refine ⟨?_, ?_⟩ | exact trivial | fail) | (dsimp only; done) | ((try dsimp only); first | with_reducible exact rfl | exact Nat.le_refl _ | with_reducible exact (fun _ _ => rfl)))); first | ((all_goals ((try dsimp only [laRSO] at *); (all_goals (try simp (disch := omega) only [w64', wu64', tdiv_pos, tmod_pos, Int.toNat_natCast, Nat.zero_add] at *)); (all_goals ((first | rfl | omega | (rw [w64' (by omega) (by omega)]; omega)))))); done) | fail))
    | fail
  all_goals (try dsimp only [laRSO, laRSI] at *)
  all_goals (try simp only [gl_self] at *)
  all_goals (try simp (disch := omega) only [fdiv_nn, Int.reduceToNat, IntKind.bits, Nat.min_def, Nat.reduceLeDiff, if_true, if_false, Int.reducePow, wu8, wu32, w64', wu64', tdiv_pos, tmod_pos, Int.toNat_natCast, Nat.zero_add] at *)
  all_goals (try (unfold inR at hr; omega))
  all_goals (try exact hw)
  all_goals (try exact ho)
  all_goals (try exact ⟨trivial, fun q h9 h8 => absurd h8 (by omega)⟩)
  all_goals
    obtain ⟨x4, xq⟩ := (by assumption : x ≤ 4 ∧ _)
    have tb := tc_bd x4 o3 o4
  all_goals first
    | (refine ⟨Nat.zero_le _, (by assumption), fun q h9 h8 => xq q h9 ?_⟩
       have : pzAt l 0 = 0 := if_neg (show ¬ 0 = l.len by omega)
       omega)
    | (have hv : IsStay l (phV l a) k (oI o) (2 * l.cyc) := ⟨by omega, Int.le_refl _, fun j h5 h6 => xq _ (by omega) (by
         rw [show x = 4 by omega]; omega), fun h9 => absurd h9 (Int.lt_irrefl _)⟩
       exact hv.val (by omega))
    | (obtain ⟨z1, ⟨z2, z3, z4⟩, zq⟩ := (by assumption : z.i ≤ l.len ∧ _)
       first
       | (have hi : z.i < l.len := by omega
          obtain ⟨e1, e2, e3⟩ := z4 z.i hi
          have pb := piece_bd ok hi
          have pz : pzAt l z.i = psum l.ln z.i := if_neg (by omega)
          have ob := ok.op z.i hi
          have w1 : IntKind.i64.wrap (↑x * l.cyc) = ↑x * l.cyc := w64' (by omega) (by omega)
          have w2 : IntKind.i64.wrap (↑x * l.cyc + psum l.ln z.i) = ↑x * l.cyc + psum l.ln z.i := w64' (by omega) (by omega)
          have w3 : IntKind.i64.wrap (↑x * l.cyc + endE l z.i) = ↑x * l.cyc + endE l z.i := w64' (by omega) (by omega)
          have w4 : IntKind.i64.wrap (↑x * l.cyc + psum l.ln z.i - phV l a) = ↑x * l.cyc + psum l.ln z.i - phV l a := w64' (by omega) (by omega)
          have gp : ∀ q, ↑x * l.cyc + psum l.ln z.i ≤ q → q < ↑x * l.cyc + endE l z.i → gAt l k q = l.op z.i / 2 ^ k.toNat % 2 := fun q h5 h6 => by
            have := gAt_piece ok (k := k) (t := ↑x) (m := q - ↑x * l.cyc) hi (by omega) (by omega)
            rwa [show (↑x : Int) * l.cyc + (q - ↑x * l.cyc) = q by omega] at this
          have g01 := g_01z (z := l.op z.i / 2 ^ k.toNat)
          have gb := bit_o (o := o) g01
          simp only [w1, e1, e2, e3, w2, w3, w4] at *
          first
          | exact ob.1
          | exact ob.2
          | (refine stay_val (E := ↑x * l.cyc + endE l z.i) p0 (by omega) (fun q h5 h6 => zq q h5 (by omega)) (by assumption) (by omega) (fun q h5 h6 => ?_)
             rw [gp q h5 h6]
             intro h9
             have h10 := (by assumption : (!decide (l.op z.i / 2 ^ k.toNat % 2 = 1) == o) = true)
             rw [gb.2 h9] at h10
             simp at h10)
          | (refine ⟨hi, ⟨z2, z3, fun r hr => ?_⟩, fun q h5 h6 => ?_⟩
             · exact z4 r hr
             · rw [pz_next hi] at h6
               rcases Int.lt_or_le q (↑x * l.cyc + psum l.ln z.i) with h7 | h7
               · exact zq q h5 (by omega)
               · first
                 | (exfalso; omega)
                 | (rw [gp q h7 h6]
                    have h10 := (by assumption : (!decide (l.op z.i / 2 ^ k.toNat % 2 = 1) == o) = false)
                    refine gb.1 ?_
                    simpa using h10)))
       | (have pz : pzAt l z.i = l.cyc := if_pos (by omega)
          refine ⟨by omega, fun q h5 h6 => zq q h5 ?_⟩
          rw [pz]
          rw [Int.natCast_add, Int.add_mul] at h6
          omega))
noncomputable def rsyS : PSpec Try.prog := readN fn22 (.s4 Lens.gl (.int .i64) (.int .i64) .bool) cxRSy (fun x => some (Gw x.1 ∧ chk x.1 = 0 ∧ inR x.2.1 ∧ gateR x.2.2.1)) (fun x => int_ .i64 (stayV x.1 (phV x.1 x.2.1) x.2.2.1 (oI x.2.2.2))) (fun _ => rfl) (fun _ => rfl) (fun _ => rfl) rsy_runs
theorem fn25 : FnOf Try.prog 25 Try.f25 := ⟨Try.func25, rfl, rfl, mixed⟩
def turnR (l : GL) (a : Int) : Int := if phV l a = 0 then a else a + (l.cyc - phV l a)
theorem turn_R {l : GL} {a : Int} (h : chk l = 0) (ha : inR a) : turnV l a = turnR l a := by unfold turnV turnR; rw [if_pos ⟨h, ha⟩]
noncomputable def cxRTu : Cx Try.prog := { ps := [rphS], es := [], is := [], n0 := 1, loops := fun _ => none, cuts := fun _ => none }
set_option maxHeartbeats 8000000 in
theorem rtu_runs (x : GL × Int) (hp : obp (some (Gw x.1 ∧ chk x.1 = 0 ∧ Tm x.2))) : Runs cxRTu Try.f25 [G1 0 x.1, int_ .i64 x.2] [roG x.1] fun v _ => isRes (int_ .i64 (turnR x.1 x.2)) v := by
  obtain ⟨l, a⟩ := x
  obtain ⟨hw, ho, ht⟩ : Gw l ∧ chk l = 0 ∧ Tm a := hp
  have ok := chk_ok ho
  obtain ⟨o1, o2, o3, o4, o5, o6⟩ : _ ∧ _ ∧ _ ∧ _ ∧ _ ∧ _ := ⟨ok.n1, ok.n2, ok.c1, ok.c2, ok.b1, ok.b2⟩
  have hs := hw.self
  have e1 := Int.emod_nonneg (a - l.base) (show l.cyc ≠ 0 by omega)
  have e2 := Int.emod_lt_of_pos (a - l.base) (show 0 < l.cyc by omega)
  have e5 : phV l a = (a - l.base) % l.cyc := rfl
  repeat' (first | with_reducible exact trivial | with_reducible exact rfl | with_reducible exact Nat.le_refl _ | with_reducible exact (fun _ _ => rfl) | ((conv => whnf); first | (refine fun _ => ?_) | refine ⟨?_, ?_⟩ | exact trivial | exact Nat.le_refl _ | exact lex_q (by kernel_rfl) | exact lex_t (by kernel_rfl) | exact lex_h (by kernel_rfl) | fail))
  all_goals (try dsimp only at *)
  all_goals (try simp only [gl_self] at *)
  all_goals (try exact hw)
  all_goals (try exact ht)
  all_goals (try exact ho)
  all_goals (unfold Tm at ht)
  all_goals first
    | omega
    | (unfold turnR; rw [if_pos (by assumption)]; done)
    | (unfold turnR; rw [if_neg (by assumption), w64' (n := a + l.cyc) (by omega) (by omega), w64' (by omega) (by omega)]; omega)
noncomputable def rtuS : PSpec Try.prog := readN fn25 (.s2 Lens.gl (.int .i64)) (fun _ => cxRTu) (fun x => some (Gw x.1 ∧ chk x.1 = 0 ∧ Tm x.2)) (fun x => int_ .i64 (turnR x.1 x.2)) (fun _ => rfl) (fun _ => rfl) (fun _ => rfl) rtu_runs

end Go.Proofs.Ytaadejgoafdbcaa
