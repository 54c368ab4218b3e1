/-
  Contracts of functions, and plain facts about them, that a claim of this seat uses.
-/
import Derived.Test.YtaadejgoafdbcaaSx
import Derived.Test.YtaadejgoafdbcaaPortA
import Derived.Test.YtaadejgoafdbcaaProg
namespace Go.Proofs.Ytaadejgoafdbcaa
open Go.Sx
set_option linter.unusedVariables false
set_option linter.unusedSimpArgs false
set_option maxRecDepth 100000

/-! lists of gates: a copy is as good; the port's gates: At, left. -/
structure CL where
  cap : Nat
  op : Nat → Int
  ln : Nat → Int
def CS (n : Nat) (l : GL) (y : CL) : Prop := n ≤ y.cap ∧ y.cap ≤ 9223372036854775807 ∧ ∀ r, r < n → y.op r = l.op r ∧ y.ln r = l.ln r
theorem CS.out {n : Nat} {l : GL} {y : CL} (h : CS n l y) : n ≤ y.cap ∧ y.cap ≤ 9223372036854775807 ∧ ∀ r, r < n → y.op r = l.op r ∧ y.ln r = l.ln r := h
def rwS (y : CL) : Option Reg := some ⟨true, .tab y.cap [.int .i64 y.op, .int .i64 y.ln]⟩
theorem chkFrom_congr {op ln op' ln' : Nat → Int} {cyc : Int} : ∀ {k i : Nat} {s : Int}, (∀ j, i ≤ j → j < i + k → op' j = op j ∧ ln' j = ln j) → chkFrom op' ln' cyc k i s = chkFrom op ln cyc k i s
  | 0, _, _, _ => rfl
  | k + 1, i, s, h => by
    obtain ⟨h1, h2⟩ := h i (Nat.le_refl _) (by omega)
    simp only [chkFrom, h1, h2]
    rw [chkFrom_congr (k := k) (i := i + 1) fun j h3 h4 => h j (by omega) (by omega)]
theorem psum_congr {ln ln' : Nat → Int} {n : Nat} (h : ∀ j, j < n → ln' j = ln j) : ∀ {i : Nat}, i ≤ n → psum ln' i = psum ln i
  | 0, _ => rfl
  | i + 1, hi => by simp only [psum]; rw [psum_congr h (by omega), h i (by omega)]
theorem slFrom_congr {ln ln' : Nat → Int} {n : Nat} {p : Int} (h : ∀ j, j < n → ln' j = ln j) : ∀ {k i : Nat}, i + k ≤ n → slFrom ln' n p k i = slFrom ln n p k i
  | 0, _, _ => rfl
  | k + 1, i, hk => by simp only [slFrom]; rw [psum_congr h (by omega), slFrom_congr h (k := k) (i := i + 1) (by omega)]
/-- the copy -/
def cp (l : GL) (y : CL) : GL := ⟨l.base, l.cyc, l.len, y.cap, y.cap, y.op, y.ln⟩
theorem cp_chk {l : GL} {y : CL} (h : CS l.len l y) : chk (cp l y) = chk l := by
  unfold chk cp
  dsimp only
  rw [chkFrom_congr (op := l.op) (ln := l.ln) fun j _ h2 => h.out.2.2 j (by omega)]
theorem cp_slot {l : GL} {y : CL} (h : CS l.len l y) (p : Int) : slotI (cp l y) p = slotI l p := slFrom_congr (n := l.len) (k := l.len) (fun j hj => (h.out.2.2 j hj).2) (by omega)
theorem cp_gAt {l : GL} {y : CL} (h : CS l.len l y) (ok : GOk l) (k q : Int) : gAt (cp l y) k q = gAt l k q := by
  have c1 := ok.c1
  have p0 := Int.emod_nonneg q (show l.cyc ≠ 0 by omega)
  have p1 := Int.emod_lt_of_pos q (show 0 < l.cyc by omega)
  obtain ⟨s1, _⟩ := ok.slot ⟨p0, p1⟩
  unfold gAt
  rw [cp_slot h, show (cp l y).cyc = l.cyc from rfl, show (cp l y).op (slotI l (q % l.cyc)) = l.op (slotI l (q % l.cyc)) from (h.out.2.2 _ s1).1]
theorem cp_stay {l : GL} {y : CL} (h : CS l.len l y) (ok : GOk l) (p k o : Int) : stayV (cp l y) p k o = stayV l p k o := by
  have c1 := ok.c1
  have i := stay_is (l := l) (p := p) (k := k) (o := o) (by omega)
  exact IsStay.val (l := cp l y) ⟨i.lo, i.hi, fun j h1 h2 => by rw [cp_gAt h ok]; exact i.all j h1 h2, fun h9 => by rw [cp_gAt h ok]; exact i.end_ h9⟩ (by show 0 ≤ l.cyc; omega)
theorem cp_gw {l : GL} {y : CL} (h : CS l.len l y) (hw : Gw l) : Gw (cp l y) := by
  obtain ⟨b, c, _, _, _, h4⟩ := hw.out
  exact Gw.mk ⟨b, c, h.out.1, h.out.1, h.out.2.1, fun i hi => by
    obtain ⟨e1, e2⟩ := h.out.2.2 i hi
    show I64 (y.op i) ∧ I64 (y.ln i)
    rw [e1, e2]; exact h4 i hi⟩
theorem cp_self (l : GL) (y : CL) : (⟨l.base, l.cyc, l.len, y.cap, y.cap - 0, fun q => y.op (q + 0), fun q => y.ln (q + 0)⟩ : GL) = cp l y := rfl
theorem cp_left {l : GL} {y : CL} (h : CS l.len l y) (at_ k : Int) : leftV (cp l y) at_ k = leftV l at_ k := by
  unfold leftV
  rw [cp_chk h]
  by_cases h9 : chk l = 0 ∧ inR at_ ∧ gateR k
  · rw [if_pos h9, if_pos h9, show phV (cp l y) at_ = phV l at_ from rfl, cp_stay h (chk_ok h9.1)]; rfl
  · rw [if_neg h9, if_neg h9]
def glN : GL := ⟨0, 0, 0, 0, 0, fun _ => 0, fun _ => 0⟩
def slCols : List Col := [.int .i64 (fun _ => 0), .int .i64 (fun _ => 0)]
/-- a port's gates: the list that holds, the one to come, when, whether -/
structure Gs where
  l : GL
  a : GL
  fr : Int
  wait : Bool
def gsCells (g : Gs) : List SA := [i_ g.l.base, i_ g.l.cyc, .slc 1 2 0 g.l.len g.l.cap, i_ g.a.base, i_ g.a.cyc, .slc 2 2 0 g.a.len g.a.cap, i_ g.fr, b_ g.wait, .ptr 3 0]
def gsSw (g : Gs) : List SA := [i_ g.a.base, i_ g.a.cyc, .slc 2 2 0 g.a.len g.a.cap, i_ 0, i_ 0, .v (.slice none 0 0), i_ 0, b_ false, .ptr 3 0]
def quiet0 : Option Reg := some ⟨false, .flat []⟩
def gsM (cs : List SA) (g : Gs) : Mem := [some ⟨true, .flat cs⟩, roG g.l, roG g.a, quiet0]
def swB (g : Gs) (now : Int) : Prop := g.wait = true ∧ g.fr ≤ now
instance (g : Gs) (now : Int) : Decidable (swB g now) := by unfold swB; exact inferInstance
/-- the gates at a time -/
def atG (g : Gs) (now : Int) : Gs := if swB g now then ⟨g.a, glN, 0, false⟩ else g
theorem atG_sw {g : Gs} {now : Int} (h : swB g now) : atG g now = ⟨g.a, glN, 0, false⟩ := if_pos h
theorem atG_no {g : Gs} {now : Int} (h : ¬ swB g now) : atG g now = g := if_neg h
structure GsOK (g : Gs) : Prop where
  lg : Gw g.l
  lc : chk g.l = 0
  ag : Gw g.a
  ac : g.wait = true → chk g.a = 0
def cpV (l : GL) (y : CL) : SV := .one (.agg [i_ l.base, i_ l.cyc, .slc 4 2 0 l.len y.cap])
def atAl (g : Gs) (now : Int) : List Alt := [.fam CL (fun y => ¬ swB g now ∧ CS g.l.len g.l y) (fun y => cpV g.l y) (fun y => gsM (gsCells g) g ++ [rwS y]), .fam CL (fun y => swB g now ∧ CS g.a.len g.a y) (fun y => cpV g.a y) (fun y => gsM (gsSw g) g ++ [rwS y])]
/-- what is there, and where -/
def rdGs (ar : List SV) (m : Mem) : Option ((Gs × Int) × List Nat) :=
  match ar with
  | [.one (.a (.ptr i 0)), .one (.a (.v (.int .i64 now)))] => (match m[i]? with
    | some (some ⟨true, .flat [.v (.int .i64 b), .v (.int .i64 c), .slc i1 2 0 n k, .v (.int .i64 b2), .v (.int .i64 c2), .slc i2 2 0 n2 k2, .v (.int .i64 fr), w, .ptr i3 0]⟩) => (match m[i1]?, m[i2]?, boolOf w with
      | some (some ⟨_, .tab N [.int .i64 op, .int .i64 ln]⟩), some (some ⟨_, .tab N2 [.int .i64 op2, .int .i64 ln2]⟩), some w => some ((⟨⟨b, c, n, k, N, op, ln⟩, ⟨b2, c2, n2, k2, N2, op2, ln2⟩, fr, w⟩, now), [i, i1, i2, i3])
      | _, _, _ => none)
    | _ => none)
  | _ => none
def gsArgs (x : Gs × Int) : List SV := [.one (.a (.ptr 0 0)), int_ .i64 x.2]
theorem rdGs_ok (ar : List SV) (m : Mem) (x : Gs × Int) (ρ : List Nat) (h : rdGs ar m = some (x, ρ)) : ar = (gsArgs x).map (SV.ren ρ) := by
  unfold rdGs at h
  split at h
  · split at h
    · split at h
      · cases h; rfl
      · cases h
    · cases h
  · cases h
def vIx (v : SV) : Nat := match v with | .one (.agg [_, _, .slc i _ _ _ _]) => i | _ => 0
theorem app_at {f : Nat → Int} {n r : Nat} {z : Int} (hr : r < n) : (if r < 0 then f r else if r < 0 + n then f (0 + (r - 0)) else z) = f r := by
  rw [if_neg (Nat.not_lt_zero r), if_pos (by omega), show 0 + (r - 0) = r by omega]
theorem alt_f1 {m0 : Mem} {ρ : List Nat} {v : SV} {m : Mem} {α : Type} {p : α → Prop} {v2 : α → SV} {m2 : α → Mem} {a : Alt} (y : α) (hp : p y) (h : altOne m0 ρ v m (v2 y) (m2 y)) : anyAlt m0 ρ v m [.fam α p v2 m2, a] := .inl ⟨y, hp, h⟩
theorem alt_f2 {m0 : Mem} {ρ : List Nat} {v : SV} {m : Mem} {α : Type} {p : α → Prop} {v2 : α → SV} {m2 : α → Mem} {a : Alt} (y : α) (hp : p y) (h : altOne m0 ρ v m (v2 y) (m2 y)) : anyAlt m0 ρ v m [a, .fam α p v2 m2] := .inr ⟨y, hp, h⟩
theorem alt_c1 {m0 : Mem} {ρ : List Nat} {v : SV} {m : Mem} {p : Prop} {v2 : SV} {m2 : Mem} {b : Alt} {l : List Alt} (hp : p) (h : altOne m0 ρ v m v2 m2) : anyAlt m0 ρ v m (.cond p v2 m2 :: b :: l) := .inl ⟨hp, h⟩
theorem alt_c2 {m0 : Mem} {ρ : List Nat} {v : SV} {m : Mem} {p : Prop} {v2 : SV} {m2 : Mem} {a : Alt} (hp : p) (h : altOne m0 ρ v m v2 m2) : anyAlt m0 ρ v m [a, .cond p v2 m2] := .inr ⟨hp, h⟩
noncomputable def cxAt : Cx Try.prog := { ps := [], es := [], is := [], n0 := 4, loops := fun _ => none, cuts := fun _ => none }
section
attribute [local irreducible] anyAlt Gw enter
set_option maxHeartbeats 8000000 in
theorem at_runs (x : Gs × Int) (hi : GsOK x.1 ∧ True) : Runs cxAt Try.f28 (gsArgs x) (gsM (gsCells x.1) x.1) fun v m => ghosted (fun _ _ => []) v m fun v m => anyAlt (gsM (gsCells x.1) x.1) [0, 1, 2, 3, vIx v] v m (atAl x.1 x.2) := by
  obtain ⟨g, now⟩ := x
  obtain ⟨hi, _⟩ := hi
  obtain ⟨lb, lcy, l1, l2, l3, l4⟩ := hi.lg.out
  obtain ⟨ab, acy, a1, a2, a3, a4⟩ := hi.ag.out
  have l64 : g.l.len ≤ 64 := (chk_ok hi.lc).n2
  have a64 : g.wait = true → g.a.len ≤ 64 := fun h => (chk_ok (hi.ac h)).n2
  repeat' (first | with_reducible exact trivial | with_reducible exact rfl | with_reducible exact Nat.le_refl _ | with_reducible exact (fun _ _ => rfl) | ((conv => whnf); first | (refine fun (x : Nat) => ?_) | (exact fun h => absurd h (by decide)) | (intro h9; (have h8 := of_decide_eq_true (p := type_of% h9) (by decide)); clear h8 h9) | (refine fun _ => ?_) | refine ⟨?_, ?_⟩ | exact trivial | exact Nat.le_refl _ | exact lex_q (by kernel_rfl) | exact lex_t (by kernel_rfl) | exact lex_h (by kernel_rfl) | fail))
  all_goals (try dsimp only at *)
  all_goals (try decide)
  all_goals (try omega)
  all_goals (try (have h9 := a64 (by assumption); omega))
  all_goals (conv => whnf)
  · refine alt_f2 ⟨_, _, _⟩ ?_ (by (repeat' (first | ((conv => whnf); first | refine ⟨?_, ?_⟩ | exact trivial | fail) | (dsimp only; done) | ((try dsimp only); first | with_reducible exact rfl | exact Nat.le_refl _ | with_reducible exact (fun _ _ => rfl)))); all_goals (rfl))
    exact ⟨⟨by assumption, by assumption⟩, by assumption, by omega, fun r hr => ⟨app_at hr, app_at hr⟩⟩
  · refine alt_f1 ⟨_, _, _⟩ ?_ (by (repeat' (first | ((conv => whnf); first | refine ⟨?_, ?_⟩ | exact trivial | fail) | (dsimp only; done) | ((try dsimp only); first | with_reducible exact rfl | exact Nat.le_refl _ | with_reducible exact (fun _ _ => rfl)))); all_goals (rfl))
    exact ⟨fun hh => absurd hh.2 (by assumption), by assumption, by omega, fun r hr => ⟨app_at hr, app_at hr⟩⟩
  · refine alt_f1 ⟨_, _, _⟩ ?_ (by (repeat' (first | ((conv => whnf); first | refine ⟨?_, ?_⟩ | exact trivial | fail) | (dsimp only; done) | ((try dsimp only); first | with_reducible exact rfl | exact Nat.le_refl _ | with_reducible exact (fun _ _ => rfl)))); all_goals (rfl))
    exact ⟨fun hh => absurd hh.1 (by simp [*]), by assumption, by omega, fun r hr => ⟨app_at hr, app_at hr⟩⟩
end
noncomputable def atS : ESpec Try.prog := effN fn28 (Gs × Int) (fun _ => cxAt) (fun x => gsM (gsCells x.1) x.1) gsArgs rdGs (fun x => GsOK x.1 ∧ True) (fun x => atAl x.1 x.2) (fun _ _ => []) (fun _ v _ => [0, 1, 2, 3, vIx v]) (fun _ => rfl) rdGs_ok (fun x a ha => by
  rcases List.mem_cons.1 ha with rfl | ha
  · exact fun _ => rfl
  · rw [List.mem_singleton.1 ha]; exact fun _ => rfl) at_runs

end Go.Proofs.Ytaadejgoafdbcaa
