/-
  Contracts of functions, and plain facts about them, that a claim of this seat uses.
-/
import Derived.Test.YtnkmfkongmijfaaSx
import Derived.Test.YtnkmfkongmijfaaFdbA
import Derived.Test.YtnkmfkongmijfaaProg
namespace Go.Proofs.Ytnkmfkongmijfaa
open Go.Sx
set_option linter.unusedVariables false
set_option linter.unusedSimpArgs false
set_option maxRecDepth 100000

/-! fdb: a table, and where it lies. -/
def i_ (n : Int) : SA := .v (.int .i64 n)
def u_ (n : Int) : SA := .v (.int .u8 n)
def b_ (b : Bool) : SA := .v (.bool b)
/-- an address in a VLAN -/
structure Pl where
  vid : Int
  m0 : Int
  m1 : Int
  m2 : Int
  m3 : Int
  m4 : Int
  m5 : Int
def plC (p : Pl) : SV1 := .agg [i_ p.vid, u_ p.m0, u_ p.m1, u_ p.m2, u_ p.m3, u_ p.m4, u_ p.m5]
def plK (p : Pl) : List Int := [p.vid, p.m0, p.m1, p.m2, p.m3, p.m4, p.m5]
def Lens.pl : Lens Pl where
  sp := .agg [.i .i64, .i .u8, .i .u8, .i .u8, .i .u8, .i .u8, .i .u8]
  pat := fun a => match a with
    | .agg [.i .i64 a, .i .u8 b, .i .u8 c, .i .u8 d, .i .u8 e, .i .u8 f, .i .u8 g] => some ⟨a, b, c, d, e, f, g⟩
    | _ => none
  arg := fun x => .agg [.i .i64 x.vid, .i .u8 x.m0, .i .u8 x.m1, .i .u8 x.m2, .i .u8 x.m3, .i .u8 x.m4, .i .u8 x.m5]
  ok := fun a x h => by
    split at h
    · cases h; rfl
    · cases h
structure Vl where
  po : Int
  ba : Int
def vlC (v : Vl) : SV1 := .agg [i_ v.po, i_ v.ba]
def Lens.vl : Lens Vl where
  sp := .agg [.i .i64, .i .i64]
  pat := fun a => match a with
    | .agg [.i .i64 a, .i .i64 b] => some ⟨a, b⟩
    | _ => none
  arg := fun x => .agg [.i .i64 x.po, .i .i64 x.ba]
  ok := fun a x h => by
    split at h
    · cases h; rfl
    · cases h
structure Pt where
  v : Int
  p0 : Int
  p1 : Int
  p2 : Int
  p3 : Int
  p4 : Int
  p5 : Int
  p6 : Int
  p7 : Int
def Pt.p (a : Pt) (k : Nat) : Int := [a.p0, a.p1, a.p2, a.p3, a.p4, a.p5, a.p6, a.p7].getD k 0
def ptC (p : Pt) : SV1 := .agg [i_ p.v, i_ p.p0, i_ p.p1, i_ p.p2, i_ p.p3, i_ p.p4, i_ p.p5, i_ p.p6, i_ p.p7]
def Lens.pt : Lens Pt where
  sp := .agg [.i .i64, .i .i64, .i .i64, .i .i64, .i .i64, .i .i64, .i .i64, .i .i64, .i .i64]
  pat := fun a => match a with
    | .agg [.i .i64 a0, .i .i64 a1, .i .i64 a2, .i .i64 a3, .i .i64 a4, .i .i64 a5, .i .i64 a6, .i .i64 a7, .i .i64 a8] => some ⟨a0, a1, a2, a3, a4, a5, a6, a7, a8⟩
    | _ => none
  arg := fun x => .agg [.i .i64 x.v, .i .i64 x.p0, .i .i64 x.p1, .i .i64 x.p2, .i .i64 x.p3, .i .i64 x.p4, .i .i64 x.p5, .i .i64 x.p6, .i .i64 x.p7]
  ok := fun a x h => by
    split at h
    · cases h; rfl
    · cases h
/-- a table: how many ports, how much room; its VLANs; how frames come in; where addresses are -/
structure Ft where
  n : Nat
  room : Int
  vl : List MRow
  cv : Nat
  al : List MRow
  ca : Nat
  pv : Nat → Int
  pp : Nat → Nat → Int
def ftP (t : Ft) : Pay := { is := [t.room], ns := [t.n, t.cv, t.ca], gs := [t.pv], g2 := [t.pp], mp := [t.vl, t.al] }
def ftR (p : Pay) : Option Ft := match p with
  | ⟨[room], [n, cv, ca], [], [], [pv], [], [pp], [], [vl, al]⟩ => some ⟨n, room, vl, cv, al, ca, pv, pp⟩
  | _ => none
theorem ftR_ok (p : Pay) (x : Ft) (h : ftR p = some x) : p = ftP x := by
  unfold ftR at h
  split at h
  · cases h; rfl
  · cases h
def ftOf (p : Pay) : Ft := ⟨p.ns.headD 0, p.is.headD 0, p.mp.headD [], (p.ns.drop 1).headD 0, (p.mp.drop 1).headD [], (p.ns.drop 2).headD 0, p.gs.headD fun _ => 0, p.g2.headD fun _ _ => 0⟩
theorem ftOf_P (t : Ft) : ftOf (ftP t) = t := rfl
structure FH where
  mv : Nat
  ma : Nat
  cap : Nat
  v : Nat → Int
  q0 : Nat → Int
  q1 : Nat → Int
  q2 : Nat → Int
  q3 : Nat → Int
  q4 : Nat → Int
  q5 : Nat → Int
  q6 : Nat → Int
  q7 : Nat → Int
noncomputable def vlR (mb c : Nat) (L : List MRow) : Option Reg := some ⟨true, .obj 78 { ns := [mb, c], mp := [L] } (mapI VT)⟩
noncomputable def alR (mb c : Nat) (L : List MRow) : Option Reg := some ⟨true, .obj 79 { ns := [mb, c], mp := [L] } (mapI AT)⟩
def ftCells (t : Ft) (h : FH) : List SA := [i_ t.n, i_ t.room, .map 1, .slc 2 9 0 t.n h.cap, .map 3]
def poR (h : FH) : Option Reg := some ⟨true, .tab h.cap [.int .i64 h.v, .int .i64 h.q0, .int .i64 h.q1, .int .i64 h.q2, .int .i64 h.q3, .int .i64 h.q4, .int .i64 h.q5, .int .i64 h.q6, .int .i64 h.q7]⟩
noncomputable def ftMem (t : Ft) (h : FH) : Mem := [some ⟨true, .flat (ftCells t h)⟩, vlR h.mv t.cv t.vl, poR h, alR h.ma t.ca t.al]
structure FtInv (t : Ft) (h : FH) : Prop where
  n : 1 ≤ t.n ∧ t.n ≤ 8
  room : 0 ≤ t.room ∧ t.room ≤ 4096
  cap : t.n ≤ h.cap ∧ h.cap ≤ 9223372036854775807
  at_ : ∀ r, r < t.n → h.v r = t.pv r ∧ h.q0 r = t.pp 0 r ∧ h.q1 r = t.pp 1 r ∧ h.q2 r = t.pp 2 r ∧ h.q3 r = t.pp 3 r ∧ h.q4 r = t.pp 4 r ∧ h.q5 r = t.pp 5 r ∧ h.q6 r = t.pp 6 r ∧ h.q7 r = t.pp 7 r
  al : MpOK AT.ks t.al t.ca
  le : (t.al.length : Int) ≤ t.room
  pv : ∀ r, r < t.n → 1 ≤ t.pv r ∧ t.pv r ≤ 4094
theorem mp_some (L : List MRow) (k : List Int) : (mpGet L k).isSome = mpHas L k := by
  unfold mpGet mpHas
  rw [Option.isSome_map, Bool.eq_iff_iff, List.find?_isSome, List.any_eq_true]
theorem put_len {L : List MRow} {k v : List Int} {c : Nat} {room : Int} (h : ¬ (mpHas L k = false ∧ room ≤ (L.length : Int))) (hl : (L.length : Int) ≤ room) : ((mpPut L k v c).length : Int) ≤ room := by
  unfold mpPut
  cases hk : mpHas L k with
  | true => simpa using hl
  | false =>
    have : ¬ room ≤ (L.length : Int) := fun h2 => h ⟨hk, h2⟩
    simp
    omega
noncomputable def ftK : ObK where
  Hid := FH
  mem := fun p h => ftMem (ftOf p) h
  inv := fun p h => FtInv (ftOf p) h
  rw := fun p h i r hi => by
    rcases (by have := (List.getElem?_eq_some_iff.1 hi).1; change i < 4 at this; omega : i = 0 ∨ i = 1 ∨ i = 2 ∨ i = 3) with rfl | rfl | rfl | rfl <;> (cases hi; rfl)
  head := fun p h => ⟨_, _, rfl⟩
/-- the regions that a table's first one names -/
def regOf : SA → Nat
  | .map i => i
  | .slc i _ _ _ _ => i
  | _ => 0
def mix (m : Mem) (c : Nat) : Nat := match (m[0]? : Option (Option Reg)) with | some (some ⟨_, .flat l⟩) => (match (l[c]? : Option SA) with | some x => regOf x | none => 0) | _ => 0
def ftRen (m : Mem) : List Nat := [0, mix m 2, mix m 3, mix m 4]
theorem o_one {K : ObK} {ρ : List Nat} {v : SV} {m : Mem} {v2 : SV} {x2 : Pay} (hd : K.Hid) (h2 : match idB 1 0 ρ, Nat.ble (K.mem x2 hd).length ρ.length, nodupB ρ, v2.ok 0, app2 (eqSV v2 v) (subMem ρ m 0 (K.mem x2 hd)) with
    | true, true, true, true, some l => allP l True
    | _, _, _, _, _ => False) (h1 : K.inv x2 hd) : anyO K ρ v m [.one v2 x2] := ⟨hd, h1, h2⟩
/-! small functions -/
noncomputable def C00 : Cx Try.prog := { ps := [], es := [], is := [], n0 := 0, loops := fun _ => none, cuts := fun _ => none }
def vidB (x : Int) : Bool := decide (1 ≤ x ∧ x ≤ 4094)
theorem vid_runs (x : Int) (_ : obp none) : Runs C00 Try.f29 [int_ .i64 x] [] fun v _ => isRes (.one (.a (b_ (vidB x)))) v := by
  repeat' (first | with_reducible exact trivial | with_reducible exact rfl | with_reducible exact Nat.le_refl _ | with_reducible exact (fun _ _ => rfl) | ((conv => whnf); first | (refine fun _ => ?_) | refine ⟨?_, ?_⟩ | exact trivial | exact Nat.le_refl _ | exact lex_q (by kernel_rfl) | exact lex_t (by kernel_rfl) | exact lex_h (by kernel_rfl) | fail))
  all_goals (unfold vidB; first | (rw [decide_eq_decide]; omega) | exact decide_eq_false (by omega) | exact (decide_eq_false (by omega)).symm | fail)
noncomputable def vidS : PSpec Try.prog := readN fn29 (.s1 (.int .i64)) (fun _ => C00) (fun _ => none) (fun x => .one (.a (b_ (vidB x)))) (fun _ => rfl) (fun _ => rfl) (fun _ => rfl) vid_runs
def grpB (p : Pl) : Bool := decide (bits .and .u8 p.m0 1 = 1)
structure Mc where
  m0 : Int
  m1 : Int
  m2 : Int
  m3 : Int
  m4 : Int
  m5 : Int
def Lens.mc : Lens Mc where
  sp := .agg [.i .u8, .i .u8, .i .u8, .i .u8, .i .u8, .i .u8]
  pat := fun a => match a with
    | .agg [.i .u8 b, .i .u8 c, .i .u8 d, .i .u8 e, .i .u8 f, .i .u8 g] => some ⟨b, c, d, e, f, g⟩
    | _ => none
  arg := fun x => .agg [.i .u8 x.m0, .i .u8 x.m1, .i .u8 x.m2, .i .u8 x.m3, .i .u8 x.m4, .i .u8 x.m5]
  ok := fun a x h => by
    split at h
    · cases h; rfl
    · cases h
theorem grp_runs (x : Mc) (_ : obp none) : Runs C00 Try.f30 [.one (.agg [u_ x.m0, u_ x.m1, u_ x.m2, u_ x.m3, u_ x.m4, u_ x.m5])] [] fun v _ => isRes (.one (.a (b_ (decide (bits .and .u8 x.m0 1 = 1))))) v := by
  repeat' (first | with_reducible exact trivial | with_reducible exact rfl | with_reducible exact Nat.le_refl _ | with_reducible exact (fun _ _ => rfl) | ((conv => whnf); first | (refine fun _ => ?_) | refine ⟨?_, ?_⟩ | exact trivial | exact Nat.le_refl _ | exact lex_q (by kernel_rfl) | exact lex_t (by kernel_rfl) | exact lex_h (by kernel_rfl) | fail))
noncomputable def grpS : PSpec Try.prog := readN fn30 (.s1 Lens.mc) (fun _ => C00) (fun _ => none) (fun x => .one (.a (b_ (decide (bits .and .u8 x.m0 1 = 1))))) (fun _ => rfl) (fun _ => rfl) (fun _ => rfl) grp_runs
theorem sh1 {n : Nat} (h : n ≤ 62) : IntKind.i64.wrap (1 * 2 ^ min ((n : Nat) : Int).toNat IntKind.i64.bits) = ((2 ^ n : Nat) : Int) := by
  have h1 : min ((n : Nat) : Int).toNat IntKind.i64.bits = n := by
    rw [Int.toNat_natCast]
    exact Nat.min_eq_left (by show n ≤ 64; omega)
  rw [h1, Int.one_mul]
  have h2 : (2 : Int) ^ n = ((2 ^ n : Nat) : Int) := by simp
  rw [h2]
  have h3 : 2 ^ n ≤ 2 ^ 62 := Nat.pow_le_pow_right (by decide) h
  have h4 : (2 : Nat) ^ 62 = 4611686018427387904 := by decide
  rw [h4] at h3
  generalize (2 : Nat) ^ n = q at *
  exact w64' (by omega) (by omega)
/-! SetVlan -/
def svBad (t : Ft) (x : Int) (v : Vl) : Prop := ¬ (1 ≤ x ∧ x ≤ 4094) ∨ v.po < 0 ∨ ((2 ^ t.n : Nat) : Int) ≤ v.po ∨ bits .andNot .i64 v.ba v.po ≠ 0
instance (t : Ft) (x : Int) (v : Vl) : Decidable (svBad t x v) := by unfold svBad; exact inferInstance
def svE (t : Ft) (x : Int) (v : Vl) : Int := if svBad t x v then 1 else 0
def svT (t : Ft) (x : Int) (v : Vl) : Ft := if svBad t x v then t else { t with vl := mpPut t.vl [x] [v.po, v.ba] t.cv, cv := mpTick t.vl [x] t.cv }
noncomputable def xrs : List (XRead Try.prog) := [lkX VT VT_ok, lkX AT AT_ok, lenX AT, entX AT AT_ok]
noncomputable def xas : List (XAct Try.prog) := [mkX VT, mkX AT, putX VT VT_ok, putX AT AT_ok, delX AT AT_ok, rngX AT, nxtX AT AT_ok]
noncomputable def cxM : Cx Try.prog := { ps := [vidS, grpS], es := [], is := [], n0 := 1, loops := fun _ => none, cuts := fun _ => none, xr := xrs, xa := xas }
section
attribute [local irreducible] anyO
set_option maxHeartbeats 8000000 in
theorem sv_runs (t : Ft) (y : Int × Vl) (h : FH) (hi : FtInv t h) : Runs cxM Try.f11 (.one (.a (.ptr 0 0)) :: [int_ .i64 y.1, .one (vlC y.2)]) (ftMem t h) fun v m => ghosted (fun _ _ => []) v m fun v m => anyO ftK (ftRen m) v m [.one (int_ .i64 (svE t y.1 y.2)) (ftP (svT t y.1 y.2))] := by
  obtain ⟨x, v⟩ := y
  have n8 := hi.n.2
  have s1 := sh1 (n := t.n) (by omega)
  have vt : ∀ {b : Bool}, vidB x = b → (b = true ↔ (1 ≤ x ∧ x ≤ 4094)) := fun hb => by rw [← hb]; exact decide_eq_true_iff
  have hno : svBad t x v → svE t x v = 1 ∧ svT t x v = t := fun hb => ⟨if_pos hb, if_pos hb⟩
  have hyes : ¬ svBad t x v → svE t x v = 0 ∧ svT t x v = { t with vl := mpPut t.vl [x] [v.po, v.ba] t.cv, cv := mpTick t.vl [x] t.cv } := fun hb => ⟨if_neg hb, if_neg hb⟩
  repeat' (first | with_reducible exact trivial | with_reducible exact rfl | with_reducible exact Nat.le_refl _ | with_reducible exact (fun _ _ => rfl) | ((conv => whnf); first | (exact fun h => absurd h (by decide)) | (intro h9; (have h8 := of_decide_eq_true (p := type_of% h9) (by decide)); clear h8 h9) | (refine fun _ => ?_) | refine ⟨?_, ?_⟩ | exact trivial | exact Nat.le_refl _ | exact lex_q (by kernel_rfl) | exact lex_t (by kernel_rfl) | exact lex_h (by kernel_rfl) | fail))
  all_goals (try exact Int.natCast_nonneg _)
  · obtain ⟨e1, e2⟩ := hno (.inl fun hh => by have := (vt rfl).2 hh; have h9 := (by assumption : (!vidB x) = true); rw [this] at h9; cases h9)
    rw [e1, e2]
    (conv => whnf); refine o_one ⟨_, _, _, _, _, _, _, _, _, _, _, _⟩ (by (repeat' (first | ((conv => whnf); first | refine ⟨?_, ?_⟩ | exact trivial | fail) | (dsimp only; done) | ((try dsimp only); first | with_reducible exact rfl | exact Nat.le_refl _ | with_reducible exact (fun _ _ => rfl)))); all_goals ((first | rfl))) ?_; exact hi
  · obtain ⟨e1, e2⟩ := hno (.inr (.inl (by assumption)))
    rw [e1, e2]
    (conv => whnf); refine o_one ⟨_, _, _, _, _, _, _, _, _, _, _, _⟩ (by (repeat' (first | ((conv => whnf); first | refine ⟨?_, ?_⟩ | exact trivial | fail) | (dsimp only; done) | ((try dsimp only); first | with_reducible exact rfl | exact Nat.le_refl _ | with_reducible exact (fun _ _ => rfl)))); all_goals ((first | rfl))) ?_; exact hi
  · obtain ⟨e1, e2⟩ := hno (.inr (.inr (.inl (by rw [← s1]; assumption))))
    rw [e1, e2]
    (conv => whnf); refine o_one ⟨_, _, _, _, _, _, _, _, _, _, _, _⟩ (by (repeat' (first | ((conv => whnf); first | refine ⟨?_, ?_⟩ | exact trivial | fail) | (dsimp only; done) | ((try dsimp only); first | with_reducible exact rfl | exact Nat.le_refl _ | with_reducible exact (fun _ _ => rfl)))); all_goals ((first | rfl))) ?_; exact hi
  · obtain ⟨e1, e2⟩ := hno (.inr (.inr (.inr (by assumption))))
    rw [e1, e2]
    (conv => whnf); refine o_one ⟨_, _, _, _, _, _, _, _, _, _, _, _⟩ (by (repeat' (first | ((conv => whnf); first | refine ⟨?_, ?_⟩ | exact trivial | fail) | (dsimp only; done) | ((try dsimp only); first | with_reducible exact rfl | exact Nat.le_refl _ | with_reducible exact (fun _ _ => rfl)))); all_goals ((first | rfl))) ?_; exact hi
  all_goals (have hv := (vt rfl).1 (by simpa using (by assumption : (!vidB x) = false)))
  · show (-9223372036854775808 : Int) ≤ x; omega
  · show x ≤ (9223372036854775807 : Int); omega
  · obtain ⟨e1, e2⟩ := hyes (fun hb => by
      rcases hb with hb | hb | hb | hb
      · exact hb hv
      · exact (by assumption : ¬ v.po < 0) hb
      · rw [← s1] at hb
        exact (by assumption : ¬ IntKind.i64.wrap _ ≤ v.po) hb
      · exact (by assumption : ¬ ¬ bits .andNot .i64 v.ba v.po = 0) hb)
    rw [e1, e2]
    (conv => whnf); refine o_one ⟨_, _, _, _, _, _, _, _, _, _, _, _⟩ (by (repeat' (first | ((conv => whnf); first | refine ⟨?_, ?_⟩ | exact trivial | fail) | (dsimp only; done) | ((try dsimp only); first | with_reducible exact rfl | exact Nat.le_refl _ | with_reducible exact (fun _ _ => rfl)))); all_goals ((first | rfl))) ?_; exact ⟨hi.n, hi.room, hi.cap, hi.at_, hi.al, hi.le, hi.pv⟩
end
noncomputable def svS : ESpec Try.prog := obN fn11 82 ftK (.s2 (.int .i64) Lens.vl) ftR ftP ftR_ok (fun _ => rfl) (fun _ _ _ => cxM) (fun _ _ => True) (fun t y => [.one (int_ .i64 (svE t y.1 y.2)) (ftP (svT t y.1 y.2))]) (fun _ _ => []) (fun _ m => ftRen m) (fun _ _ _ => rfl) (fun t y _ h hi => sv_runs t y h hi)

end Go.Proofs.Ytnkmfkongmijfaa
