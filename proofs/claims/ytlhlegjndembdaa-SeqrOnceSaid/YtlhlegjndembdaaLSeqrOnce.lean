/-
  For all numbers the law SeqrOnce answers true and leaves all memory as it was.
-/
import Derived.Test.YtlhlegjndembdaaSx
import Derived.Test.YtlhlegjndembdaaOncB
import Derived.Test.YtlhlegjndembdaaRows
import Derived.WalkKit
import Derived.ProofKit
import Derived.OpenShut
namespace Go.Proofs.Ytlhlegjndembdaa.seqrOnce
open Go.ChangeShapes Go.WideShapes Go.ChangeAt Go.RowKit Go.Sx
set_option linter.unusedVariables false
set_option linter.unusedSimpArgs false
set_option maxRecDepth 100000

structure OS where
  len : Nat
  cap : Nat
  N : Nat
  g : Nat → Int
def roO (a : OS) : Option Reg := some ⟨false, .tab a.N [.int .i64 a.g]⟩
def Ow (a : OS) : Prop := a.len ≤ a.cap ∧ a.len ≤ a.N ∧ a.cap ≤ 9223372036854775807
theorem den_os {x y : Int} {A : Option Addr} {n cap : Nat} : #[SV.den (envOf [A]) (int_ .i64 x), SV.den (envOf [A]) (int_ .i64 y), SV.den (envOf [A]) (.one (.a (.slc 0 1 0 n cap)))] = #[.int .i64 x, .int .i64 y, .slice A n cap] := by
  show #[Value.int _ _, Value.int _ _, SA.den (envOf [A]) (.slc 0 1 0 n cap)] = _
  rw [den_slc (A := A) rfl]
def fst_ (a : Int) : Int := bits .and .i64 a 65535
def len_ (b : Int) : Int := IntKind.i64.wrap (16 + bits .and .i64 b 31)
theorem fst_bd (a : Int) : 0 ≤ fst_ a ∧ fst_ a ≤ 65535 := by unfold fst_; rw [show bits .and .i64 a 65535 = a % 2 ^ 16 from and_mask a 16 (by decide)]; omega
theorem len_bd (b : Int) : 16 ≤ len_ b ∧ len_ b ≤ 47 := by
  unfold len_
  rw [show bits .and .i64 b 31 = b % 2 ^ 5 from and_mask b 5 (by decide), w64' (by omega) (by omega)]
  omega
structure OX where
  i : Nat
  s : Sq
  tk : List MRow
  tb : Nat
  tc : Nat
  cm : List MRow
  cb : Nat
  cc : Nat
  C : Nat → Bool
structure OM where
  i : Nat
  s : Sq
  tk : List MRow
  tb : Nat
  tc : Nat
  cm : List MRow
  cb : Nat
  cc : Nat
  C : Nat → Bool
structure OY where
  s : Sq
  tk : List MRow
  tb : Nat
  tc : Nat
  cm : List MRow
  cb : Nat
  cc : Nat
  seen : List MRow
  C : Nat → Bool
noncomputable def tkR (b c : Nat) (L : List MRow) : Option Reg := some ⟨true, .obj 35 { ns := [b, c], mp := [L] } (mapI TK)⟩
noncomputable def cmR (b c : Nat) (L : List MRow) : Option Reg := some ⟨true, .obj 36 { ns := [b, c], mp := [L] } (mapI CM)⟩
def cellO (m : Mem) (o : Nat) : Nat := match (m[o]? : Option (Option Reg)) with
  | some (some ⟨_, .flat (.ptr i _ :: _)⟩) => i
  | some (some ⟨_, .flat (.map i :: _)⟩) => i
  | _ => 0
noncomputable def onM (st : OS) (a : Int) (s : Sq) (tk : List MRow) (tb tc : Nat) (cm : List MRow) (cb cc : Nat) : Mem :=
  [roO st, some ⟨true, .flat [i_ (fst_ a)]⟩, some ⟨true, .flat s.cells⟩, some ⟨true, .flat [.ptr 2 0]⟩, tkR tb tc tk, some ⟨true, .flat [.map 4]⟩, cmR cb cc cm, some ⟨true, .flat [.map 6]⟩]
noncomputable abbrev laO (st : OS) (a b : Int) : LA where
  ι := OX
  inv := fun x => x.i ≤ st.len ∧ OnI (fst_ a) (len_ b) x.C x.s ∧ MpI x.C x.tk x.tc ∧ MpI x.C x.cm x.cc ∧ Ps x.C x.i
  T := fun x => ⟨89, [(3, .one (.a (.ptr 1 0))), (7, .one (.a (.ptr 3 0))), (9, .one (.a (.ptr 5 0))), (10, .one (.a (.ptr 7 0))), (11, .one (.a (.clo 16 [(3, 0), (1, 0), (7, 0), (5, 0)]))), (37, .one (.a (.slc 0 1 0 st.len st.cap))), (38, int_ .i64 st.len), (39, int_ .i64 x.i)], onM st a x.s x.tk x.tb x.tc x.cm x.cb x.cc⟩
  μ := fun x => st.len - x.i
  ren := fun S => [0, S.ix 3, cellO S.m (S.ix 7), S.ix 7, cellO S.m (S.ix 9), S.ix 9, cellO S.m (S.ix 10), S.ix 10]
noncomputable abbrev laM (st : OS) (a b k : Int) : LA where
  ι := OM
  inv := fun x => (x.i : Int) = k ∧ x.i < st.len ∧ OnI (fst_ a) (len_ b) x.C x.s ∧ MpI x.C x.tk x.tc ∧ MpI x.C x.cm x.cc ∧ Pm x.C x.i
  T := fun x => ⟨89, [(3, .one (.a (.ptr 1 0))), (7, .one (.a (.ptr 3 0))), (9, .one (.a (.ptr 5 0))), (10, .one (.a (.ptr 7 0))), (11, .one (.a (.clo 16 [(3, 0), (1, 0), (7, 0), (5, 0)]))), (12, int_ .i64 x.i), (13, int_ .i64 (st.g x.i)), (37, .one (.a (.slc 0 1 0 st.len st.cap))), (38, int_ .i64 st.len), (39, int_ .i64 x.i)], onM st a x.s x.tk x.tb x.tc x.cm x.cb x.cc⟩
  μ := fun x => 0
  ren := fun S => [0, S.ix 3, cellO S.m (S.ix 7), S.ix 7, cellO S.m (S.ix 9), S.ix 9, cellO S.m (S.ix 10), S.ix 10]
noncomputable abbrev laP (st : OS) (a b : Int) : LA where
  ι := OY
  inv := fun x => MpI x.C x.tk x.tc ∧ MpI x.C x.cm x.cc
  T := fun x => ⟨89, [(3, .one (.a (.ptr 1 0))), (7, .one (.a (.ptr 3 0))), (9, .one (.a (.ptr 5 0))), (10, .one (.a (.ptr 7 0))), (80, .one (.a (.ptr 8 0)))], onM st a x.s x.tk x.tb x.tc x.cm x.cb x.cc ++ [some ⟨true, .obj 0 { ns := [x.cb, x.cc, x.cc], mp := [x.seen] } iterI⟩]⟩
  μ := fun x => (unmet x.cm x.seen).length
  ren := fun S => [0, S.ix 3, cellO S.m (S.ix 7), S.ix 7, cellO S.m (S.ix 9), S.ix 9, cellO S.m (S.ix 10), S.ix 10, S.ix 80]
theorem fn16 : FnOf Try.prog 16 Try.f16 := ⟨Try.func16, rfl, rfl, mixed⟩
noncomputable def oxr : List (XRead Try.prog) := [lkX TK TK_ok, lkX CM CM_ok, entX CM CM_ok]
noncomputable def oxa : List (XAct Try.prog) := [mkX TK, mkX CM, putX TK TK_ok, putX CM CM_ok, rngX CM, nxtX CM CM_ok]
noncomputable def cxG : Cx Try.prog := { ps := [], es := [inS], is := [], n0 := 0, loops := fun _ => none, cuts := fun _ => none, xr := oxr, xa := oxa }
noncomputable def cxL (st : OS) (a b : Int) : Cx Try.prog := { ps := [hdS, chkCS], es := [inS], is := [inl fn15 cxNew, inl fn16 cxG], n0 := 1, loops := fun i => match i with | 14 => some (.inv (laO st a b)) | 23 => some (.inv (laP st a b)) | _ => none, cuts := fun _ => none, cutsAt := fun i => match i with | 18 => some (39, 39, fun k _ => laM st a b k) | _ => none, xr := oxr, xa := oxa }
attribute [local irreducible] enter anyAlt Sq.in_ mpGet mpPut mpTick
set_option maxHeartbeats 8000000 in
theorem runs (a b : Int) (st : OS) (hw : Ow st) : Runs (cxL st a b) Try.f4 [int_ .i64 a, int_ .i64 b, .one (.a (.slc 0 1 0 st.len st.cap))] [roO st] yes := by
  obtain ⟨w1, w2, w3⟩ := hw
  have hf := fst_bd a
  have hL := len_bd b
  have hck : chkC (0, len_ b, 1099511627776) = 0 := chkC_0 ⟨.inl rfl, by dsimp only; omega, by dsimp only; omega⟩
  repeat' (first | with_reducible exact trivial | with_reducible exact rfl | with_reducible exact Nat.le_refl _ | with_reducible exact (fun _ _ => rfl) | ((conv => whnf); first | (refine fun (x : OX) => ?_) | (refine fun (y : OM) => ?_) | (refine fun (z : OY) => ?_) | (refine fun (u : MRow) => ?_) | (refine fun (v : Nat) => ?_) | (refine fun (w : Nat) => ?_) | (exact fun h => absurd h (by decide)) | (intro h9; (have h8 := of_decide_eq_true (p := type_of% h9) (by decide)); clear h8 h9) | (refine fun _ => ?_) | refine ⟨?_, ?_⟩ | exact trivial | exact Nat.le_refl _ | exact lex_q (by kernel_rfl) | exact lex_t (by kernel_rfl) | exact lex_h (by kernel_rfl) | fail))
  all_goals (try exact absurd (by assumption : (!true) = true) (by decide))
  all_goals (try omega)
  all_goals (try exact absurd hck (by assumption))
  all_goals (have h100 := (by assumption : ¬ (100 : Int) < st.len))
  all_goals (try (have hz := (by assumption : (laP st a b).inv z); dsimp only [laP] at hz; obtain ⟨z1, z2⟩ := hz))
  all_goals (try exact z2.ok.lt _ (by assumption))
  all_goals (try (have hu := (by assumption : u ∈ z.cm ∧ ∀ (s : MRow), s ∈ z.seen → s.b ≠ u.b); have huk := key_1 (z2.ok.len _ hu.1)))
  all_goals (try first | exact hu.1 | exact huk.1.1 | exact huk.1.2 | exact absurd (mpi_one z2 z1 hu.1) (by assumption) | fail)
  all_goals (try ((have hu2 := hu); (conv => whnf); refine enter_mk (la := laP st a b) ⟨z.s, z.tk, z.tb, z.tc, z.cm, z.cb, z.cc, u :: z.seen, z.C⟩ ?_ (by (repeat' (first | ((conv => whnf); first | refine ⟨?_, ?_⟩ | exact trivial | fail) | (dsimp only; done) | ((try dsimp only); first | with_reducible exact rfl | exact Nat.le_refl _ | with_reducible exact (fun _ _ => rfl)))); all_goals ((first | rfl | exact un_lt hu.1 hu.2))); exact ⟨z1, z2⟩))
  all_goals (try (have hi := (by assumption : (laO st a b).inv x); dsimp only [laO] at hi; obtain ⟨i1, i2, i3, i4, i5⟩ := hi))
  all_goals (try (have hj := (by assumption : (laM st a b (x.i : Int)).inv y); dsimp only [laM] at hj; obtain ⟨ek, j1, j2, j3, j4, j5⟩ := hj))
  · (conv => whnf); refine enter_mk (la := laO st a b) ⟨0, ⟨0, len_ b, 1099511627776, true, 0, 0, 0, 0, 0, 0, 0, 0, 0⟩, [], _, 0, [], _, 0, fun _ => false⟩ ?_ (by (repeat' (first | ((conv => whnf); first | refine ⟨?_, ?_⟩ | exact trivial | fail) | (dsimp only; done) | ((try dsimp only); first | with_reducible exact rfl | exact Nat.le_refl _ | with_reducible exact (fun _ _ => rfl)))); all_goals ((first | rfl)))
    exact ⟨Nat.zero_le _, onk_0, mpi_0, mpi_0, ps_0⟩
  all_goals (try (have hl0 := (by assumption : (x.i : Int) < st.len); have hl : x.i < st.len := (by omega); have hx1 : IntKind.i64.min ≤ (x.i : Int) := (by show (-9223372036854775808 : Int) ≤ x.i; omega); have hx2 : (x.i : Int) ≤ IntKind.i64.max := (by show (x.i : Int) ≤ 9223372036854775807; omega); have hl1 : 1 ≤ x.s.len := (by rw [i2.len]; omega); have hl2 : x.s.len ≤ 9223372036854775807 := (by rw [i2.len]; omega); have hq : ((IntKind.i64.wrap (fst_ a + (x.i : Int))).tmod 65536) = (fst_ a + (x.i : Int)) % 65536 := (by rw [w64' (by omega) (by omega), Int.tmod_eq_emod_of_nonneg (by omega)]); have G := give2 (s := x.s) (k := x.i) (kI := (x.i : Int)) (q := ((IntKind.i64.wrap (fst_ a + (x.i : Int))).tmod 65536)) i2 i3 i4 hf hL (by omega) (ps_near i5) rfl hq))
  all_goals (try first | exact hx1 | exact hx2 | exact hl1 | exact hl2 | fail)
  all_goals (try (first | exact absurd G.1 (by assumption) | exact absurd (by assumption : (x.s.in_ (x.i : Int) ((IntKind.i64.wrap (fst_ a + (x.i : Int))).tmod 65536)).1 = 2) G.2.1 | exact absurd (Classical.not_not.1 (by assumption : ¬ ¬ (x.s.in_ (x.i : Int) ((IntKind.i64.wrap (fst_ a + (x.i : Int))).tmod 65536)).1 = 2)) G.2.1 | fail))
  all_goals (try (have hl9 := hl; first
    | (have h0 := (by assumption : (x.s.in_ (x.i : Int) ((IntKind.i64.wrap (fst_ a + (x.i : Int))).tmod 65536)).1 = 0); (conv => whnf); refine enter_mk (la := laM st a b (x.i : Int)) ⟨x.i, (x.s.in_ (x.i : Int) ((IntKind.i64.wrap (fst_ a + (x.i : Int))).tmod 65536)).2.2, (mpPut x.tk [(x.i : Int)] [IntKind.i64.wrap (cellI (mpGet x.tk [(x.i : Int)]) 0 + 1)] x.tc), x.tb, (mpTick x.tk [(x.i : Int)] x.tc), (mpPut x.cm [(x.i : Int)] [1] x.cc), x.cb, (mpTick x.cm [(x.i : Int)] x.cc), (setC x.C x.i)⟩ ?_ (by (repeat' (first | ((conv => whnf); first | refine ⟨?_, ?_⟩ | exact trivial | fail) | (dsimp only; done) | ((try dsimp only); first | with_reducible exact rfl | exact Nat.le_refl _ | with_reducible exact (fun _ _ => rfl)))); all_goals ((first | rfl | exact congrArg st.g (show x.i = 0 + (x.i : Int).toNat by omega) | exact congrArg st.g (show 0 + (x.i : Int).toNat = x.i by omega) | (dsimp only; rw [w64' (by omega) (by omega)]; omega) | (show st.len - (y.i + 1) < st.len - x.i; omega) | exact Nat.zero_le 7))); exact ⟨rfl, hl, G.2.2.1, G.2.2.2.2.1 (.inl h0), G.2.2.2.1, ps_first i5⟩)
    | (have h0 := (by assumption : (x.s.in_ (x.i : Int) ((IntKind.i64.wrap (fst_ a + (x.i : Int))).tmod 65536)).1 = 3); (conv => whnf); refine enter_mk (la := laM st a b (x.i : Int)) ⟨x.i, (x.s.in_ (x.i : Int) ((IntKind.i64.wrap (fst_ a + (x.i : Int))).tmod 65536)).2.2, (mpPut x.tk [(x.i : Int)] [IntKind.i64.wrap (cellI (mpGet x.tk [(x.i : Int)]) 0 + 1)] x.tc), x.tb, (mpTick x.tk [(x.i : Int)] x.tc), (mpPut x.cm [(x.i : Int)] [1] x.cc), x.cb, (mpTick x.cm [(x.i : Int)] x.cc), (setC x.C x.i)⟩ ?_ (by (repeat' (first | ((conv => whnf); first | refine ⟨?_, ?_⟩ | exact trivial | fail) | (dsimp only; done) | ((try dsimp only); first | with_reducible exact rfl | exact Nat.le_refl _ | with_reducible exact (fun _ _ => rfl)))); all_goals ((first | rfl | exact congrArg st.g (show x.i = 0 + (x.i : Int).toNat by omega) | exact congrArg st.g (show 0 + (x.i : Int).toNat = x.i by omega) | (dsimp only; rw [w64' (by omega) (by omega)]; omega) | (show st.len - (y.i + 1) < st.len - x.i; omega) | exact Nat.zero_le 7))); exact ⟨rfl, hl, G.2.2.1, G.2.2.2.2.1 (.inr h0), G.2.2.2.1, ps_first i5⟩)
    | (have h0 := (by assumption : ¬ (x.s.in_ (x.i : Int) ((IntKind.i64.wrap (fst_ a + (x.i : Int))).tmod 65536)).1 = 0); have h3 := (by assumption : ¬ (x.s.in_ (x.i : Int) ((IntKind.i64.wrap (fst_ a + (x.i : Int))).tmod 65536)).1 = 3); (conv => whnf); refine enter_mk (la := laM st a b (x.i : Int)) ⟨x.i, (x.s.in_ (x.i : Int) ((IntKind.i64.wrap (fst_ a + (x.i : Int))).tmod 65536)).2.2, x.tk, x.tb, x.tc, (mpPut x.cm [(x.i : Int)] [1] x.cc), x.cb, (mpTick x.cm [(x.i : Int)] x.cc), (setC x.C x.i)⟩ ?_ (by (repeat' (first | ((conv => whnf); first | refine ⟨?_, ?_⟩ | exact trivial | fail) | (dsimp only; done) | ((try dsimp only); first | with_reducible exact rfl | exact Nat.le_refl _ | with_reducible exact (fun _ _ => rfl)))); all_goals ((first | rfl | exact congrArg st.g (show x.i = 0 + (x.i : Int).toNat by omega) | exact congrArg st.g (show 0 + (x.i : Int).toNat = x.i by omega) | (dsimp only; rw [w64' (by omega) (by omega)]; omega) | (show st.len - (y.i + 1) < st.len - x.i; omega) | exact Nat.zero_le 7))); exact ⟨rfl, hl, G.2.2.1, G.2.2.2.2.2 h0 h3, G.2.2.2.1, ps_first i5⟩)
    | ((conv => whnf); refine enter_mk (la := laM st a b (x.i : Int)) ⟨x.i, x.s, x.tk, x.tb, x.tc, x.cm, x.cb, x.cc, x.C⟩ ?_ (by (repeat' (first | ((conv => whnf); first | refine ⟨?_, ?_⟩ | exact trivial | fail) | (dsimp only; done) | ((try dsimp only); first | with_reducible exact rfl | exact Nat.le_refl _ | with_reducible exact (fun _ _ => rfl)))); all_goals ((first | rfl | exact congrArg st.g (show x.i = 0 + (x.i : Int).toNat by omega) | exact congrArg st.g (show 0 + (x.i : Int).toNat = x.i by omega) | (dsimp only; rw [w64' (by omega) (by omega)]; omega) | (show st.len - (y.i + 1) < st.len - x.i; omega) | exact Nat.zero_le 7))); exact ⟨rfl, hl, i2, i3, i4, ps_skip i5⟩)
    | fail))
  all_goals (try (have hm : 0 ≤ bits .and .i64 ((st.g y.i).fdiv (2 ^ min (Int.toNat 1) IntKind.i64.bits)) 7 ∧ bits .and .i64 ((st.g y.i).fdiv (2 ^ min (Int.toNat 1) IntKind.i64.bits)) 7 ≤ 7 := (by rw [show bits .and .i64 ((st.g y.i).fdiv (2 ^ min (Int.toNat 1) IntKind.i64.bits)) 7 = ((st.g y.i).fdiv (2 ^ min (Int.toNat 1) IntKind.i64.bits)) % 2 ^ 3 from and_mask _ 3 (by decide)]; omega); have hV : (IntKind.i64.wrap ((y.i : Int) - bits .and .i64 ((st.g y.i).fdiv (2 ^ min (Int.toNat 1) IntKind.i64.bits)) 7)) = (y.i : Int) - bits .and .i64 ((st.g y.i).fdiv (2 ^ min (Int.toNat 1) IntKind.i64.bits)) 7 := w64' (by omega) (by omega); have hv1 : IntKind.i64.min ≤ (IntKind.i64.wrap ((y.i : Int) - bits .and .i64 ((st.g y.i).fdiv (2 ^ min (Int.toNat 1) IntKind.i64.bits)) 7)) := (by rw [hV]; show (-9223372036854775808 : Int) ≤ _; omega); have hv2 : (IntKind.i64.wrap ((y.i : Int) - bits .and .i64 ((st.g y.i).fdiv (2 ^ min (Int.toNat 1) IntKind.i64.bits)) 7)) ≤ IntKind.i64.max := (by rw [hV]; show _ ≤ (9223372036854775807 : Int); omega); have hl1 : 1 ≤ y.s.len := (by rw [j2.len]; omega); have hl2 : y.s.len ≤ 9223372036854775807 := (by rw [j2.len]; omega)))
  all_goals (try first | exact hv1 | exact hv2 | exact hl1 | exact hl2 | fail)
  all_goals (try (have hv0 := (by assumption : 0 ≤ (IntKind.i64.wrap ((y.i : Int) - bits .and .i64 ((st.g y.i).fdiv (2 ^ min (Int.toNat 1) IntKind.i64.bits)) 7))); have hq : ((IntKind.i64.wrap (fst_ a + (IntKind.i64.wrap ((y.i : Int) - bits .and .i64 ((st.g y.i).fdiv (2 ^ min (Int.toNat 1) IntKind.i64.bits)) 7)))).tmod 65536) = (fst_ a + ((IntKind.i64.wrap ((y.i : Int) - bits .and .i64 ((st.g y.i).fdiv (2 ^ min (Int.toNat 1) IntKind.i64.bits)) 7)).toNat : Int)) % 65536 := (by rw [w64' (n := fst_ a + (IntKind.i64.wrap ((y.i : Int) - bits .and .i64 ((st.g y.i).fdiv (2 ^ min (Int.toNat 1) IntKind.i64.bits)) 7))) (by omega) (by omega), Int.tmod_eq_emod_of_nonneg (by omega)]; omega); have G := give2 (s := y.s) (k := (IntKind.i64.wrap ((y.i : Int) - bits .and .i64 ((st.g y.i).fdiv (2 ^ min (Int.toNat 1) IntKind.i64.bits)) 7)).toNat) (kI := (IntKind.i64.wrap ((y.i : Int) - bits .and .i64 ((st.g y.i).fdiv (2 ^ min (Int.toNat 1) IntKind.i64.bits)) 7))) (q := ((IntKind.i64.wrap (fst_ a + (IntKind.i64.wrap ((y.i : Int) - bits .and .i64 ((st.g y.i).fdiv (2 ^ min (Int.toNat 1) IntKind.i64.bits)) 7)))).tmod 65536)) j2 j3 j4 hf hL (by omega) (pm_near j5 (by omega) (by omega)) (by omega) hq))
  all_goals (try (first | exact absurd G.1 (by assumption) | exact absurd (by assumption : (y.s.in_ (IntKind.i64.wrap ((y.i : Int) - bits .and .i64 ((st.g y.i).fdiv (2 ^ min (Int.toNat 1) IntKind.i64.bits)) 7)) ((IntKind.i64.wrap (fst_ a + (IntKind.i64.wrap ((y.i : Int) - bits .and .i64 ((st.g y.i).fdiv (2 ^ min (Int.toNat 1) IntKind.i64.bits)) 7)))).tmod 65536)).1 = 2) G.2.1 | exact absurd (Classical.not_not.1 (by assumption : ¬ ¬ (y.s.in_ (IntKind.i64.wrap ((y.i : Int) - bits .and .i64 ((st.g y.i).fdiv (2 ^ min (Int.toNat 1) IntKind.i64.bits)) 7)) ((IntKind.i64.wrap (fst_ a + (IntKind.i64.wrap ((y.i : Int) - bits .and .i64 ((st.g y.i).fdiv (2 ^ min (Int.toNat 1) IntKind.i64.bits)) 7)))).tmod 65536)).1 = 2)) G.2.1 | fail))
  all_goals (try (have hl9 := hv1; first
    | (have h0 := (by assumption : (y.s.in_ (IntKind.i64.wrap ((y.i : Int) - bits .and .i64 ((st.g y.i).fdiv (2 ^ min (Int.toNat 1) IntKind.i64.bits)) 7)) ((IntKind.i64.wrap (fst_ a + (IntKind.i64.wrap ((y.i : Int) - bits .and .i64 ((st.g y.i).fdiv (2 ^ min (Int.toNat 1) IntKind.i64.bits)) 7)))).tmod 65536)).1 = 0); (conv => whnf); refine enter_mk (la := laO st a b) ⟨y.i + 1, (y.s.in_ (IntKind.i64.wrap ((y.i : Int) - bits .and .i64 ((st.g y.i).fdiv (2 ^ min (Int.toNat 1) IntKind.i64.bits)) 7)) ((IntKind.i64.wrap (fst_ a + (IntKind.i64.wrap ((y.i : Int) - bits .and .i64 ((st.g y.i).fdiv (2 ^ min (Int.toNat 1) IntKind.i64.bits)) 7)))).tmod 65536)).2.2, (mpPut y.tk [(IntKind.i64.wrap ((y.i : Int) - bits .and .i64 ((st.g y.i).fdiv (2 ^ min (Int.toNat 1) IntKind.i64.bits)) 7))] [IntKind.i64.wrap (cellI (mpGet y.tk [(IntKind.i64.wrap ((y.i : Int) - bits .and .i64 ((st.g y.i).fdiv (2 ^ min (Int.toNat 1) IntKind.i64.bits)) 7))]) 0 + 1)] y.tc), y.tb, (mpTick y.tk [(IntKind.i64.wrap ((y.i : Int) - bits .and .i64 ((st.g y.i).fdiv (2 ^ min (Int.toNat 1) IntKind.i64.bits)) 7))] y.tc), (mpPut y.cm [(IntKind.i64.wrap ((y.i : Int) - bits .and .i64 ((st.g y.i).fdiv (2 ^ min (Int.toNat 1) IntKind.i64.bits)) 7))] [1] y.cc), y.cb, (mpTick y.cm [(IntKind.i64.wrap ((y.i : Int) - bits .and .i64 ((st.g y.i).fdiv (2 ^ min (Int.toNat 1) IntKind.i64.bits)) 7))] y.cc), (setC y.C (IntKind.i64.wrap ((y.i : Int) - bits .and .i64 ((st.g y.i).fdiv (2 ^ min (Int.toNat 1) IntKind.i64.bits)) 7)).toNat)⟩ ?_ (by (repeat' (first | ((conv => whnf); first | refine ⟨?_, ?_⟩ | exact trivial | fail) | (dsimp only; done) | ((try dsimp only); first | with_reducible exact rfl | exact Nat.le_refl _ | with_reducible exact (fun _ _ => rfl)))); all_goals ((first | rfl | exact congrArg st.g (show x.i = 0 + (x.i : Int).toNat by omega) | exact congrArg st.g (show 0 + (x.i : Int).toNat = x.i by omega) | (dsimp only; rw [w64' (by omega) (by omega)]; omega) | (show st.len - (y.i + 1) < st.len - x.i; omega) | exact Nat.zero_le 7))); exact ⟨by show y.i + 1 ≤ st.len; omega, G.2.2.1, G.2.2.2.2.1 (.inl h0), G.2.2.2.1, pm_back j5 (by omega) (by omega)⟩)
    | (have h0 := (by assumption : (y.s.in_ (IntKind.i64.wrap ((y.i : Int) - bits .and .i64 ((st.g y.i).fdiv (2 ^ min (Int.toNat 1) IntKind.i64.bits)) 7)) ((IntKind.i64.wrap (fst_ a + (IntKind.i64.wrap ((y.i : Int) - bits .and .i64 ((st.g y.i).fdiv (2 ^ min (Int.toNat 1) IntKind.i64.bits)) 7)))).tmod 65536)).1 = 3); (conv => whnf); refine enter_mk (la := laO st a b) ⟨y.i + 1, (y.s.in_ (IntKind.i64.wrap ((y.i : Int) - bits .and .i64 ((st.g y.i).fdiv (2 ^ min (Int.toNat 1) IntKind.i64.bits)) 7)) ((IntKind.i64.wrap (fst_ a + (IntKind.i64.wrap ((y.i : Int) - bits .and .i64 ((st.g y.i).fdiv (2 ^ min (Int.toNat 1) IntKind.i64.bits)) 7)))).tmod 65536)).2.2, (mpPut y.tk [(IntKind.i64.wrap ((y.i : Int) - bits .and .i64 ((st.g y.i).fdiv (2 ^ min (Int.toNat 1) IntKind.i64.bits)) 7))] [IntKind.i64.wrap (cellI (mpGet y.tk [(IntKind.i64.wrap ((y.i : Int) - bits .and .i64 ((st.g y.i).fdiv (2 ^ min (Int.toNat 1) IntKind.i64.bits)) 7))]) 0 + 1)] y.tc), y.tb, (mpTick y.tk [(IntKind.i64.wrap ((y.i : Int) - bits .and .i64 ((st.g y.i).fdiv (2 ^ min (Int.toNat 1) IntKind.i64.bits)) 7))] y.tc), (mpPut y.cm [(IntKind.i64.wrap ((y.i : Int) - bits .and .i64 ((st.g y.i).fdiv (2 ^ min (Int.toNat 1) IntKind.i64.bits)) 7))] [1] y.cc), y.cb, (mpTick y.cm [(IntKind.i64.wrap ((y.i : Int) - bits .and .i64 ((st.g y.i).fdiv (2 ^ min (Int.toNat 1) IntKind.i64.bits)) 7))] y.cc), (setC y.C (IntKind.i64.wrap ((y.i : Int) - bits .and .i64 ((st.g y.i).fdiv (2 ^ min (Int.toNat 1) IntKind.i64.bits)) 7)).toNat)⟩ ?_ (by (repeat' (first | ((conv => whnf); first | refine ⟨?_, ?_⟩ | exact trivial | fail) | (dsimp only; done) | ((try dsimp only); first | with_reducible exact rfl | exact Nat.le_refl _ | with_reducible exact (fun _ _ => rfl)))); all_goals ((first | rfl | exact congrArg st.g (show x.i = 0 + (x.i : Int).toNat by omega) | exact congrArg st.g (show 0 + (x.i : Int).toNat = x.i by omega) | (dsimp only; rw [w64' (by omega) (by omega)]; omega) | (show st.len - (y.i + 1) < st.len - x.i; omega) | exact Nat.zero_le 7))); exact ⟨by show y.i + 1 ≤ st.len; omega, G.2.2.1, G.2.2.2.2.1 (.inr h0), G.2.2.2.1, pm_back j5 (by omega) (by omega)⟩)
    | (have h0 := (by assumption : ¬ (y.s.in_ (IntKind.i64.wrap ((y.i : Int) - bits .and .i64 ((st.g y.i).fdiv (2 ^ min (Int.toNat 1) IntKind.i64.bits)) 7)) ((IntKind.i64.wrap (fst_ a + (IntKind.i64.wrap ((y.i : Int) - bits .and .i64 ((st.g y.i).fdiv (2 ^ min (Int.toNat 1) IntKind.i64.bits)) 7)))).tmod 65536)).1 = 0); have h3 := (by assumption : ¬ (y.s.in_ (IntKind.i64.wrap ((y.i : Int) - bits .and .i64 ((st.g y.i).fdiv (2 ^ min (Int.toNat 1) IntKind.i64.bits)) 7)) ((IntKind.i64.wrap (fst_ a + (IntKind.i64.wrap ((y.i : Int) - bits .and .i64 ((st.g y.i).fdiv (2 ^ min (Int.toNat 1) IntKind.i64.bits)) 7)))).tmod 65536)).1 = 3); (conv => whnf); refine enter_mk (la := laO st a b) ⟨y.i + 1, (y.s.in_ (IntKind.i64.wrap ((y.i : Int) - bits .and .i64 ((st.g y.i).fdiv (2 ^ min (Int.toNat 1) IntKind.i64.bits)) 7)) ((IntKind.i64.wrap (fst_ a + (IntKind.i64.wrap ((y.i : Int) - bits .and .i64 ((st.g y.i).fdiv (2 ^ min (Int.toNat 1) IntKind.i64.bits)) 7)))).tmod 65536)).2.2, y.tk, y.tb, y.tc, (mpPut y.cm [(IntKind.i64.wrap ((y.i : Int) - bits .and .i64 ((st.g y.i).fdiv (2 ^ min (Int.toNat 1) IntKind.i64.bits)) 7))] [1] y.cc), y.cb, (mpTick y.cm [(IntKind.i64.wrap ((y.i : Int) - bits .and .i64 ((st.g y.i).fdiv (2 ^ min (Int.toNat 1) IntKind.i64.bits)) 7))] y.cc), (setC y.C (IntKind.i64.wrap ((y.i : Int) - bits .and .i64 ((st.g y.i).fdiv (2 ^ min (Int.toNat 1) IntKind.i64.bits)) 7)).toNat)⟩ ?_ (by (repeat' (first | ((conv => whnf); first | refine ⟨?_, ?_⟩ | exact trivial | fail) | (dsimp only; done) | ((try dsimp only); first | with_reducible exact rfl | exact Nat.le_refl _ | with_reducible exact (fun _ _ => rfl)))); all_goals ((first | rfl | exact congrArg st.g (show x.i = 0 + (x.i : Int).toNat by omega) | exact congrArg st.g (show 0 + (x.i : Int).toNat = x.i by omega) | (dsimp only; rw [w64' (by omega) (by omega)]; omega) | (show st.len - (y.i + 1) < st.len - x.i; omega) | exact Nat.zero_le 7))); exact ⟨by show y.i + 1 ≤ st.len; omega, G.2.2.1, G.2.2.2.2.2 h0 h3, G.2.2.2.1, pm_back j5 (by omega) (by omega)⟩)
    | (have hc := mpi_came j4 hv0 (by assumption); (conv => whnf); refine enter_mk (la := laO st a b) ⟨y.i + 1, y.s, y.tk, y.tb, y.tc, y.cm, y.cb, y.cc, y.C⟩ ?_ (by (repeat' (first | ((conv => whnf); first | refine ⟨?_, ?_⟩ | exact trivial | fail) | (dsimp only; done) | ((try dsimp only); first | with_reducible exact rfl | exact Nat.le_refl _ | with_reducible exact (fun _ _ => rfl)))); all_goals ((first | rfl | exact congrArg st.g (show x.i = 0 + (x.i : Int).toNat by omega) | exact congrArg st.g (show 0 + (x.i : Int).toNat = x.i by omega) | (dsimp only; rw [w64' (by omega) (by omega)]; omega) | (show st.len - (y.i + 1) < st.len - x.i; omega) | exact Nat.zero_le 7))); exact ⟨by show y.i + 1 ≤ st.len; omega, j2, j3, j4, pm_had j5 hc (by omega)⟩)
    | (have hv0 := (by assumption : ¬ 0 ≤ (IntKind.i64.wrap ((y.i : Int) - bits .and .i64 ((st.g y.i).fdiv (2 ^ min (Int.toNat 1) IntKind.i64.bits)) 7))); (conv => whnf); refine enter_mk (la := laO st a b) ⟨y.i + 1, y.s, y.tk, y.tb, y.tc, y.cm, y.cb, y.cc, y.C⟩ ?_ (by (repeat' (first | ((conv => whnf); first | refine ⟨?_, ?_⟩ | exact trivial | fail) | (dsimp only; done) | ((try dsimp only); first | with_reducible exact rfl | exact Nat.le_refl _ | with_reducible exact (fun _ _ => rfl)))); all_goals ((first | rfl | exact congrArg st.g (show x.i = 0 + (x.i : Int).toNat by omega) | exact congrArg st.g (show 0 + (x.i : Int).toNat = x.i by omega) | (dsimp only; rw [w64' (by omega) (by omega)]; omega) | (show st.len - (y.i + 1) < st.len - x.i; omega) | exact Nat.zero_le 7))); exact ⟨by show y.i + 1 ≤ st.len; omega, j2, j3, j4, pm_neg j5 (by omega)⟩)
    | fail))
  all_goals ((conv => whnf); refine enter_mk (la := laP st a b) ⟨x.s, x.tk, x.tb, x.tc, x.cm, x.cb, x.cc, [], x.C⟩ ?_ (by (repeat' (first | ((conv => whnf); first | refine ⟨?_, ?_⟩ | exact trivial | fail) | (dsimp only; done) | ((try dsimp only); first | with_reducible exact rfl | exact Nat.le_refl _ | with_reducible exact (fun _ _ => rfl)))); all_goals ((first | rfl))); exact ⟨i3, i4⟩)

theorem own : ownKnob Try.prog.godebug = none := by kernel_rfl

set_option maxRecDepth 100000 in
theorem lifted (os : Os) (started : os.Started) (H : Type) (enc : TypeId × Value → H) :
    ReturnsInHanded {} Try.checked os 4 .any (Rows.seqrOnceSpec.pre6 enc Try.prog Try.f4 Rows.seqrOnceRow.domain false) (Rows.seqrOnceSpec.post enc Try.prog Try.f4 false true false false) := by
  refine returnsInHanded_of_change (C := Try.checked) own started (by kernel_rfl) Try.func4
    (ChangeSpec.witness6 (enc := enc) (C := Try.checked) false ⟨#[], #[.int .i64 0, .int .i64 0, .slice none 0 0], []⟩ 8 (by kernel_rfl) (by kernel_rfl) (by kernel_rfl) (by kernel_rfl)) ?_
  intro W base args ds gs before hval0 hW hcnd _
  have hval : ∀ (j : Nat) t v, Try.f4.params[j]? = some t → args[j]? = some v → Value.okWide Try.prog W .any base t v := hval0
  have hW' := hW
  obtain ⟨p, q, hA0, hV, rfl, hfz, hnd⟩ := hW
  have hA : DataW.TrodAll enc Try.prog W 0 (fun _ => true) true Try.f4.params.toList args.toList ds p := hA0
  rw [Try.params4] at hA hval
  obtain ⟨v0, vs0, d0, ds0, p0, q0, hargs0, rfl, rfl, h0, r0⟩ := trodAll_cons hA
  obtain ⟨v1, vs1, d1, ds1, p1, q1, hargs1, rfl, rfl, h1, r1⟩ := trodAll_cons r0
  obtain ⟨v2, vs2, d2, ds2, p2, q2, hargs2, rfl, rfl, h2, r2⟩ := trodAll_cons r1
  obtain ⟨rfl, rfl, rfl⟩ := trodAll_nil r2
  obtain ⟨rfl, rfl⟩ := trodVars_none hV
  obtain rfl : args = #[v0, v1, v2] := by cases args; simp_all
  obtain ⟨a0, rfl, rfl, rfl, w0⟩ := open_int Try.underlying3 (hval 0 3 v0 rfl rfl) h0
  obtain ⟨a1, rfl, rfl, rfl, w1⟩ := open_int Try.underlying3 (hval 1 3 v1 rfl rfl) h1
  obtain ⟨A2, n2, c2, s2⟩ := slice_open (d := 6) (row := [some .i64]) Try.underlying27 (by kernel_rfl) (by kernel_rfl) (hval 2 27 v2 rfl rfl) h2
  refine Calls.mono (law_calls mixed Try.func4 (runs a0 a1 ⟨n2, c2, n2, fun r => intC W A2 (r * 1 + 0)⟩ ⟨s2.le, Nat.le_refl _, s2.max⟩) (e := envOf [A2]) (rel_in1 s2.reg) (Nat.le_refl 1) (by rw [s2.val]; exact den_os.symm)) fun e W' ⟨he, hb⟩ => ?_
  subst he
  exact ⟨_, rfl, law_post hW' rfl rfl (by kernel_rfl) (by decide +kernel) rfl Try.underlying4 hb⟩

theorem over : Rows.seqrOnceRow.holds Try.pinned (OpenSpec.ofChange Rows.seqrOnceSpec) :=
  OpenClaim.holds_of_wide 4 Try.f4 rfl rfl rfl rfl rfl rfl rfl ⟨rfl, rfl, rfl, rfl, rfl⟩ rfl rfl rfl rfl rfl (by kernel_rfl) Try.func4 (by kernel_rfl)
    (of_decide_eq_true (by kernel_rfl)) (by unfold Func.isWrapper; first | (rw [if_pos (by decide +kernel)]; kernel_rfl) | (rw [if_neg (by decide +kernel)]; exact ⟨rfl, rfl⟩))
    (fun os started H enc _ => lifted os started H enc)

/-- SeqrOnce -/
theorem proved : Rows.SeqrOnceSaid := over
#print axioms proved
end Go.Proofs.Ytlhlegjndembdaa.seqrOnce
