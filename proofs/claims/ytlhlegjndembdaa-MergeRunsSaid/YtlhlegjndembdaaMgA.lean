/-
  Contracts of functions, and plain facts about them, that a claim of this seat uses.
-/
import Derived.Test.YtlhlegjndembdaaSx
import Derived.Test.YtlhlegjndembdaaSeqC
import Derived.Test.YtlhlegjndembdaaProg
namespace Go.Proofs.Ytlhlegjndembdaa
open Go.Sx
set_option linter.unusedVariables false
set_option linter.unusedSimpArgs false
set_option maxRecDepth 100000

/-! merge: the object; In. -/
theorem fn28 : FnOf Try.prog 28 Try.f28 := ⟨Try.func28, rfl, rfl, mixed⟩
theorem fn30 : FnOf Try.prog 30 Try.f30 := ⟨Try.func30, rfl, rfl, mixed⟩
theorem fn31 : FnOf Try.prog 31 Try.f31 := ⟨Try.func31, rfl, rfl, mixed⟩
theorem fn32 : FnOf Try.prog 32 Try.f32 := ⟨Try.func32, rfl, rfl, mixed⟩
theorem fn34 : FnOf Try.prog 34 Try.f34 := ⟨Try.func34, rfl, rfl, mixed⟩
theorem fn41 : FnOf Try.prog 41 Try.f41 := ⟨Try.func41, rfl, rfl, mixed⟩
/-- how frames of several ways become one row -/
structure Mg where
  w : Nat
  o0 : Int
  o1 : Int
  o2 : Int
  a0 : Int
  a1 : Int
  a2 : Int
  every : Int
  limit : Int
  next : Int
  passed : Int
  again : Int
  silent : Int
  ones : Nat → Sq
  all : Sq
def sqI (s : Sq) : List Int := [s.way, s.len, s.reset, s.last, s.had, s.wen, s.k0, s.k1, s.k2, s.k3, s.resets, s.lost]
def mgP (t : Mg) : Pay := { is := [t.o0, t.o1, t.o2, t.a0, t.a1, t.a2, t.every, t.limit, t.next, t.passed, t.again, t.silent, t.all.way, t.all.len, t.all.reset, t.all.last, t.all.had, t.all.wen, t.all.k0, t.all.k1, t.all.k2, t.all.k3, t.all.resets, t.all.lost], ns := [t.w], bs := [t.all.any], gs := [fun k => (t.ones k).way, fun k => (t.ones k).len, fun k => (t.ones k).reset, fun k => (t.ones k).last, fun k => (t.ones k).had, fun k => (t.ones k).wen, fun k => (t.ones k).k0, fun k => (t.ones k).k1, fun k => (t.ones k).k2, fun k => (t.ones k).k3, fun k => (t.ones k).resets, fun k => (t.ones k).lost], hs := [fun k => (t.ones k).any] }
def mgR (p : Pay) : Option Mg := match p with
  | ⟨[o0, o1, o2, a0, a1, a2, ev, li, ne, pa, ag, si, b0, b1, b2, b3, b4, b5, b6, b7, b8, b9, b10, b11], [w], [any], [], [g0, g1, g2, g3, g4, g5, g6, g7, g8, g9, g10, g11], [h], [], [], []⟩ =>
    some ⟨w, o0, o1, o2, a0, a1, a2, ev, li, ne, pa, ag, si, fun k => ⟨g0 k, g1 k, g2 k, h k, g3 k, g4 k, g5 k, g6 k, g7 k, g8 k, g9 k, g10 k, g11 k⟩, ⟨b0, b1, b2, any, b3, b4, b5, b6, b7, b8, b9, b10, b11⟩⟩
  | _ => none
theorem mgR_ok (p : Pay) (x : Mg) (h : mgR p = some x) : p = mgP x := by
  unfold mgR at h
  split at h
  · cases h; rfl
  · cases h
def atI (p : Pay) (k : Nat) : Int := p.is.getD k 0
def atG (p : Pay) (k : Nat) : Nat → Int := p.gs.getD k fun _ => 0
def mgOf (p : Pay) : Mg := ⟨p.ns.headD 0, atI p 0, atI p 1, atI p 2, atI p 3, atI p 4, atI p 5, atI p 6, atI p 7, atI p 8, atI p 9, atI p 10, atI p 11, fun k => ⟨atG p 0 k, atG p 1 k, atG p 2 k, (p.hs.headD fun _ => false) k, atG p 3 k, atG p 4 k, atG p 5 k, atG p 6 k, atG p 7 k, atG p 8 k, atG p 9 k, atG p 10 k, atG p 11 k⟩, ⟨atI p 12, atI p 13, atI p 14, p.bs.headD false, atI p 15, atI p 16, atI p 17, atI p 18, atI p 19, atI p 20, atI p 21, atI p 22, atI p 23⟩⟩
theorem mgOf_P (t : Mg) : mgOf (mgP t) = t := rfl
def sqR (s : Sq) : Option Reg := some ⟨true, .flat s.cells⟩
/-- its first region; region w + 2 is that of all ways together -/
def mgC (t : Mg) (cap : Nat) : List SA := [i_ t.w, i_ t.o0, i_ t.o1, i_ t.o2, i_ t.a0, i_ t.a1, i_ t.a2, i_ t.every, i_ t.limit, .slc 1 1 0 t.w cap, .ptr (t.w + 2) 0, i_ t.next, i_ t.passed, i_ t.again, i_ t.silent]
def mgMem (t : Mg) (cap : Nat) : Mem := match t.w with
  | 1 => [some ⟨true, .flat (mgC t cap)⟩, some ⟨true, .flat [.ptr 2 0]⟩, sqR (t.ones 0), sqR t.all]
  | 2 => [some ⟨true, .flat (mgC t cap)⟩, some ⟨true, .flat [.ptr 2 0, .ptr 3 0]⟩, sqR (t.ones 0), sqR (t.ones 1), sqR t.all]
  | 3 => [some ⟨true, .flat (mgC t cap)⟩, some ⟨true, .flat [.ptr 2 0, .ptr 3 0, .ptr 4 0]⟩, sqR (t.ones 0), sqR (t.ones 1), sqR (t.ones 2), sqR t.all]
  | 4 => [some ⟨true, .flat (mgC t cap)⟩, some ⟨true, .flat [.ptr 2 0, .ptr 3 0, .ptr 4 0, .ptr 5 0]⟩, sqR (t.ones 0), sqR (t.ones 1), sqR (t.ones 2), sqR (t.ones 3), sqR t.all]
  | 5 => [some ⟨true, .flat (mgC t cap)⟩, some ⟨true, .flat [.ptr 2 0, .ptr 3 0, .ptr 4 0, .ptr 5 0, .ptr 6 0]⟩, sqR (t.ones 0), sqR (t.ones 1), sqR (t.ones 2), sqR (t.ones 3), sqR (t.ones 4), sqR t.all]
  | 6 => [some ⟨true, .flat (mgC t cap)⟩, some ⟨true, .flat [.ptr 2 0, .ptr 3 0, .ptr 4 0, .ptr 5 0, .ptr 6 0, .ptr 7 0]⟩, sqR (t.ones 0), sqR (t.ones 1), sqR (t.ones 2), sqR (t.ones 3), sqR (t.ones 4), sqR (t.ones 5), sqR t.all]
  | 7 => [some ⟨true, .flat (mgC t cap)⟩, some ⟨true, .flat [.ptr 2 0, .ptr 3 0, .ptr 4 0, .ptr 5 0, .ptr 6 0, .ptr 7 0, .ptr 8 0]⟩, sqR (t.ones 0), sqR (t.ones 1), sqR (t.ones 2), sqR (t.ones 3), sqR (t.ones 4), sqR (t.ones 5), sqR (t.ones 6), sqR t.all]
  | 8 => [some ⟨true, .flat (mgC t cap)⟩, some ⟨true, .flat [.ptr 2 0, .ptr 3 0, .ptr 4 0, .ptr 5 0, .ptr 6 0, .ptr 7 0, .ptr 8 0, .ptr 9 0]⟩, sqR (t.ones 0), sqR (t.ones 1), sqR (t.ones 2), sqR (t.ones 3), sqR (t.ones 4), sqR (t.ones 5), sqR (t.ones 6), sqR (t.ones 7), sqR t.all]
  | _ => [some ⟨true, .flat (mgC t cap)⟩]
structure MgInv (t : Mg) (cap : Nat) : Prop where
  w : 1 ≤ t.w ∧ t.w ≤ 8
  cap : t.w ≤ cap ∧ cap ≤ 9223372036854775807
  one : ∀ k, k < t.w → 1 ≤ (t.ones k).len ∧ (t.ones k).len ≤ 9223372036854775807
  all : 1 ≤ t.all.len ∧ t.all.len ≤ 9223372036854775807
theorem w_cases {n : Nat} (h : 1 ≤ n ∧ n ≤ 8) : n = 1 ∨ n = 2 ∨ n = 3 ∨ n = 4 ∨ n = 5 ∨ n = 6 ∨ n = 7 ∨ n = 8 := by omega
theorem mgMem_rw (t : Mg) (cap : Nat) (i : Nat) (r : Reg) (hi : (mgMem t cap)[i]? = some (some r)) : r.rw = true := by
  have hm := List.mem_of_getElem? hi
  unfold mgMem at hm
  split at hm
  all_goals
    simp only [List.mem_cons, Option.some.injEq, List.not_mem_nil, or_false, sqR] at hm
    repeat' (first | (rcases hm with rfl | hm; · rfl) | (subst hm; rfl) | cases hm)
theorem mgMem_head (t : Mg) (cap : Nat) : ∃ c l, (mgMem t cap)[0]? = some (some ⟨true, .flat (c :: l)⟩) := by
  unfold mgMem
  split <;> exact ⟨_, _, rfl⟩
noncomputable def mgK : ObK where
  Hid := Nat
  mem := fun p h => mgMem (mgOf p) h
  inv := fun p h => MgInv (mgOf p) h
  rw := fun p h i r hi => mgMem_rw (mgOf p) h i r hi
  head := fun p h => mgMem_head (mgOf p) h
/-- the regions that its first one names -/
def cellM (m : Mem) (o c : Nat) : Option SA := match (m[o]? : Option (Option Reg)) with | some (some ⟨_, .flat l⟩) => l[c]? | some (some ⟨_, .room _ l⟩) => l[c]? | _ => none
def regOf : Option SA → Nat
  | some (.slc i _ _ _ _) => i
  | some (.ptr i _) => i
  | _ => 0
def ptrsM (m : Mem) (o : Nat) : List Nat := match (m[o]? : Option (Option Reg)) with | some (some ⟨_, .flat l⟩) => l.map fun x => regOf (some x) | some (some ⟨_, .room _ l⟩) => l.map fun x => regOf (some x) | _ => []
def mgRen (o : Nat) (m : Mem) : List Nat := o :: regOf (cellM m o 9) :: (ptrsM m (regOf (cellM m o 9)) ++ [regOf (cellM m o 10)])
theorem o_one {K : ObK} {ρ : List Nat} {v : SV} {m : Mem} {v2 : SV} {x2 : Pay} (hd : K.Hid) (h2 : match idB 1 0 ρ, Nat.ble (K.mem x2 hd).length ρ.length, nodupB ρ, v2.ok 0, app2 (eqSV v2 v) (subMem ρ m 0 (K.mem x2 hd)) with
    | true, true, true, true, some l => allP l True
    | _, _, _, _, _ => False) (h1 : K.inv x2 hd) : anyO K ρ v m [.one v2 x2] := ⟨hd, h1, h2⟩
/-! In -/
def upd (f : Nat → Sq) (k : Nat) (s : Sq) : Nat → Sq := fun j => if j = k then s else f j
def b_ (b : Bool) : SA := .v (.bool b)
def mgOne (t : Mg) (n y q : Int) : Int × Int × Sq := (t.ones y.toNat).in_ n q
def mgAll (t : Mg) (n q : Int) : Int × Int × Sq := t.all.in_ n q
def mgT1 (t : Mg) (n y q : Int) : Mg := { t with ones := upd t.ones y.toNat (mgOne t n y q).2.2 }
def mgT2 (t : Mg) (n y q : Int) : Mg := { mgT1 t n y q with all := (mgAll t n q).2.2 }
def mgIn (t : Mg) (n y q : Int) : Bool × Int × Mg :=
  if y < 0 ∨ (t.w : Int) ≤ y then (false, 40, t)
  else if ¬ (mgOne t n y q).2.1 = 0 then (false, (mgOne t n y q).2.1, mgT1 t n y q)
  else if (mgOne t n y q).1 = 1 ∨ (mgOne t n y q).1 = 2 then (false, 0, mgT1 t n y q)
  else if (mgAll t n q).1 = 0 ∨ (mgAll t n q).1 = 3 then (true, 0, { mgT2 t n y q with passed := IntKind.i64.wrap (t.passed + 1) })
  else if (mgAll t n q).1 = 1 then (false, 0, { mgT2 t n y q with again := IntKind.i64.wrap (t.again + 1) })
  else (false, 0, mgT2 t n y q)
theorem mi_40 {t : Mg} {n y q : Int} (h : y < 0 ∨ (t.w : Int) ≤ y) : mgIn t n y q = (false, 40, t) := if_pos h
theorem mi_e {t : Mg} {n y q : Int} (h : ¬ (y < 0 ∨ (t.w : Int) ≤ y)) (h2 : ¬ (mgOne t n y q).2.1 = 0) : mgIn t n y q = (false, (mgOne t n y q).2.1, mgT1 t n y q) := by unfold mgIn; rw [if_neg h, if_pos h2]
theorem mi_no {t : Mg} {n y q : Int} (h : ¬ (y < 0 ∨ (t.w : Int) ≤ y)) (h2 : (mgOne t n y q).2.1 = 0) (h3 : (mgOne t n y q).1 = 1 ∨ (mgOne t n y q).1 = 2) : mgIn t n y q = (false, 0, mgT1 t n y q) := by unfold mgIn; rw [if_neg h, if_neg (fun h9 => h9 h2), if_pos h3]
theorem mi_yes {t : Mg} {n y q : Int} (h : ¬ (y < 0 ∨ (t.w : Int) ≤ y)) (h2 : (mgOne t n y q).2.1 = 0) (h3 : ¬ ((mgOne t n y q).1 = 1 ∨ (mgOne t n y q).1 = 2)) (h4 : (mgAll t n q).1 = 0 ∨ (mgAll t n q).1 = 3) : mgIn t n y q = (true, 0, { mgT2 t n y q with passed := IntKind.i64.wrap (t.passed + 1) }) := by unfold mgIn; rw [if_neg h, if_neg (fun h9 => h9 h2), if_neg h3, if_pos h4]
theorem mi_ag {t : Mg} {n y q : Int} (h : ¬ (y < 0 ∨ (t.w : Int) ≤ y)) (h2 : (mgOne t n y q).2.1 = 0) (h3 : ¬ ((mgOne t n y q).1 = 1 ∨ (mgOne t n y q).1 = 2)) (h4 : ¬ ((mgAll t n q).1 = 0 ∨ (mgAll t n q).1 = 3)) (h5 : (mgAll t n q).1 = 1) : mgIn t n y q = (false, 0, { mgT2 t n y q with again := IntKind.i64.wrap (t.again + 1) }) := by unfold mgIn; rw [if_neg h, if_neg (fun h9 => h9 h2), if_neg h3, if_neg h4, if_pos h5]
theorem mi_ro {t : Mg} {n y q : Int} (h : ¬ (y < 0 ∨ (t.w : Int) ≤ y)) (h2 : (mgOne t n y q).2.1 = 0) (h3 : ¬ ((mgOne t n y q).1 = 1 ∨ (mgOne t n y q).1 = 2)) (h4 : ¬ ((mgAll t n q).1 = 0 ∨ (mgAll t n q).1 = 3)) (h5 : ¬ (mgAll t n q).1 = 1) : mgIn t n y q = (false, 0, mgT2 t n y q) := by unfold mgIn; rw [if_neg h, if_neg (fun h9 => h9 h2), if_neg h3, if_neg h4, if_neg h5]
def mgV (r : Bool × Int × Mg) : SV := .tup [.a (b_ r.1), .a (i_ r.2.1)]

end Go.Proofs.Ytlhlegjndembdaa
