/-
  Contracts of functions, and plain facts about them, that a claim of this seat uses.
-/
import Derived.Test.YtaadejgoafdbcaaSx
import Derived.Test.YtaadejgoafdbcaaPGatesB
import Derived.Test.YtaadejgoafdbcaaProg
namespace Go.Proofs.Ytaadejgoafdbcaa
open Go.Sx
set_option linter.unusedVariables false
set_option linter.unusedSimpArgs false
set_option maxRecDepth 100000

/-! lanes: what they hold, and where. -/
theorem fn20 : FnOf Try.prog 20 Try.f20 := ⟨Try.func20, rfl, rfl, mixed⟩
theorem fn9 : FnOf Try.prog 9 Try.f9 := ⟨Try.func9, rfl, rfl, mixed⟩
theorem fn21 : FnOf Try.prog 21 Try.f21 := ⟨Try.func21, rfl, rfl, mixed⟩
theorem fn24 : FnOf Try.prog 24 Try.f24 := ⟨Try.func24, rfl, rfl, mixed⟩
theorem fn26 : FnOf Try.prog 26 Try.f26 := ⟨Try.func26, rfl, rfl, mixed⟩
theorem fn27 : FnOf Try.prog 27 Try.f27 := ⟨Try.func27, rfl, rfl, mixed⟩
theorem fn35 : FnOf Try.prog 35 Try.f35 := ⟨Try.func35, rfl, rfl, mixed⟩
theorem fn33 : FnOf Try.prog 33 Try.f33 := ⟨Try.func33, rfl, rfl, mixed⟩
def i_ (n : Int) : SA := .v (.int .i64 n)
def b_ (b : Bool) : SA := .v (.bool b)
/-- eight numbers -/
structure A8 where
  a0 : Int
  a1 : Int
  a2 : Int
  a3 : Int
  a4 : Int
  a5 : Int
  a6 : Int
  a7 : Int
def A8.f (a : A8) (k : Nat) : Int := [a.a0, a.a1, a.a2, a.a3, a.a4, a.a5, a.a6, a.a7].getD k 0
def a8C (a : A8) : SV := .one (.agg [i_ a.a0, i_ a.a1, i_ a.a2, i_ a.a3, i_ a.a4, i_ a.a5, i_ a.a6, i_ a.a7])
def Lens.a8 : Lens A8 where
  sp := .agg [.i .i64, .i .i64, .i .i64, .i .i64, .i .i64, .i .i64, .i .i64, .i .i64]
  pat := fun a => match a with
    | .agg [.i .i64 a0, .i .i64 a1, .i .i64 a2, .i .i64 a3, .i .i64 a4, .i .i64 a5, .i .i64 a6, .i .i64 a7] => some ⟨a0, a1, a2, a3, a4, a5, a6, a7⟩
    | _ => none
  arg := fun x => .agg [.i .i64 x.a0, .i .i64 x.a1, .i .i64 x.a2, .i .i64 x.a3, .i .i64 x.a4, .i .i64 x.a5, .i .i64 x.a6, .i .i64 x.a7]
  ok := fun a x h => by
    split at h
    · cases h; rfl
    · cases h
/-- a frame that waits -/
structure It where
  id : Int
  sz : Int
  dr : Bool
def itC (x : It) : SV1 := .agg [i_ x.id, i_ x.sz, b_ x.dr]
def Lens.it : Lens It where
  sp := .agg [.i .i64, .i .i64, .b]
  pat := fun a => match a with
    | .agg [.i .i64 a, .i .i64 b, .b d] => some ⟨a, b, d⟩
    | _ => none
  arg := fun x => .agg [.i .i64 x.id, .i .i64 x.sz, .b x.dr]
  ok := fun a x h => by
    split at h
    · cases h; rfl
    · cases h
/-- lanes: how many of each class wait, their rooms, how many were lost; who waits -/
structure Ln where
  n : Nat → Nat
  room : Nat → Int
  lost : Nat → Int
  id : Nat → Nat → Int
  sz : Nat → Nat → Int
  dr : Nat → Nat → Bool
def lnP (l : Ln) : Pay := { ng := [l.n], gs := [l.room, l.lost], g2 := [l.id, l.sz], h2 := [l.dr] }
def lnR (p : Pay) : Option Ln := match p with
  | ⟨[], [], [], [n], [room, lost], [], [id, sz], [dr], []⟩ => some ⟨n, room, lost, id, sz, dr⟩
  | _ => none
theorem lnR_ok (p : Pay) (x : Ln) (h : lnR p = some x) : p = lnP x := by
  unfold lnR at h
  split at h
  · cases h; rfl
  · cases h
def lnOf (p : Pay) : Ln := ⟨p.ng.headD fun _ => 0, p.gs.headD fun _ => 0, (p.gs.drop 1).headD fun _ => 0, p.g2.headD fun _ _ => 0, (p.g2.drop 1).headD fun _ _ => 0, p.h2.headD fun _ _ => false⟩
/-- a row's memory -/
structure HQ where
  c : Nat
  a : Nat → Int
  b : Nat → Int
  d : Nat → Bool
structure LH where
  q0 : HQ
  q1 : HQ
  q2 : HQ
  q3 : HQ
  q4 : HQ
  q5 : HQ
  q6 : HQ
  q7 : HQ
def qReg (q : HQ) : Option Reg := some ⟨true, .tab q.c [.int .i64 q.a, .int .i64 q.b, .bool q.d]⟩
def lnCells (l : Ln) (h : LH) : List SA := [.slc 1 3 0 (l.n 0) h.q0.c, .slc 2 3 0 (l.n 1) h.q1.c, .slc 3 3 0 (l.n 2) h.q2.c, .slc 4 3 0 (l.n 3) h.q3.c, .slc 5 3 0 (l.n 4) h.q4.c, .slc 6 3 0 (l.n 5) h.q5.c, .slc 7 3 0 (l.n 6) h.q6.c, .slc 8 3 0 (l.n 7) h.q7.c, i_ (l.room 0), i_ (l.room 1), i_ (l.room 2), i_ (l.room 3), i_ (l.room 4), i_ (l.room 5), i_ (l.room 6), i_ (l.room 7), i_ (l.lost 0), i_ (l.lost 1), i_ (l.lost 2), i_ (l.lost 3), i_ (l.lost 4), i_ (l.lost 5), i_ (l.lost 6), i_ (l.lost 7)]
def lnMem (l : Ln) (h : LH) : Mem := [some ⟨true, .flat (lnCells l h)⟩, qReg h.q0, qReg h.q1, qReg h.q2, qReg h.q3, qReg h.q4, qReg h.q5, qReg h.q6, qReg h.q7]
structure QOK (l : Ln) (k : Nat) (q : HQ) : Prop where
  n : l.n k ≤ q.c
  c : q.c ≤ 9223372036854775807
  at_ : ∀ r, r < l.n k → q.a r = l.id k r ∧ q.b r = l.sz k r ∧ q.d r = l.dr k r
structure LnOK (l : Ln) : Prop where
  n : ∀ k, k < 8 → l.n k ≤ 4096
  room : ∀ k, k < 8 → l.room k ≤ 4096
  sz : ∀ k, k < 8 → ∀ r, r < l.n k → 0 ≤ l.sz k r ∧ l.sz k r ≤ 1600
structure LnInv (l : Ln) (h : LH) : Prop where
  ok : LnOK l
  q0 : QOK l 0 h.q0
  q1 : QOK l 1 h.q1
  q2 : QOK l 2 h.q2
  q3 : QOK l 3 h.q3
  q4 : QOK l 4 h.q4
  q5 : QOK l 5 h.q5
  q6 : QOK l 6 h.q6
  q7 : QOK l 7 h.q7
def lnK : ObK where
  Hid := LH
  mem := fun p h => lnMem (lnOf p) h
  inv := fun p h => LnInv (lnOf p) h
  rw := fun p h i r hi => by
    rcases (by have := (List.getElem?_eq_some_iff.1 hi).1; change i < 9 at this; omega : i = 0 ∨ i = 1 ∨ i = 2 ∨ i = 3 ∨ i = 4 ∨ i = 5 ∨ i = 6 ∨ i = 7 ∨ i = 8) with rfl | rfl | rfl | rfl | rfl | rfl | rfl | rfl | rfl <;> (cases hi; rfl)
  head := fun p h => ⟨_, _, rfl⟩
def up {α : Type} (f : Nat → α) (k : Nat) (v : α) : Nat → α := fun j => if j = k then v else f j
theorem up_at {α : Type} (f : Nat → α) (k : Nat) (v : α) : up f k v k = v := if_pos rfl
theorem up_ne {α : Type} (f : Nat → α) {k j : Nat} (v : α) (h : j ≠ k) : up f k v j = f j := if_neg h
/-- is there no room? -/
def full (l : Ln) (k : Nat) (d : Bool) : Prop := l.room k ≤ (l.n k : Int) ∨ (d = true ∧ l.room k ≤ 2 * (l.n k : Int))
instance (l : Ln) (k : Nat) (d : Bool) : Decidable (full l k d) := by unfold full; exact inferInstance
def putE (l : Ln) (c : Int) (x : It) : Int := if x.sz < 0 ∨ 1600 < x.sz then 1 else if c < 0 ∨ 7 < c then 40 else if full l c.toNat x.dr then 30 else 0
def putL (l : Ln) (c : Int) (x : It) : Ln where
  n := if putE l c x = 0 then up l.n c.toNat (l.n c.toNat + 1) else l.n
  room := l.room
  lost := if putE l c x = 30 then up l.lost c.toNat (IntKind.i64.wrap (l.lost c.toNat + 1)) else l.lost
  id := if putE l c x = 0 then up l.id c.toNat (fun r => if r < l.n c.toNat then l.id c.toNat r else x.id) else l.id
  sz := if putE l c x = 0 then up l.sz c.toNat (fun r => if r < l.n c.toNat then l.sz c.toNat r else x.sz) else l.sz
  dr := if putE l c x = 0 then up l.dr c.toNat (fun r => if r < l.n c.toNat then l.dr c.toNat r else x.dr) else l.dr
def mix (m : Mem) (c : Nat) : Nat := match (m[0]? : Option (Option Reg)) with | some (some ⟨_, .flat l⟩) => (match (l[c]? : Option SA) with | some x => x.ix | none => 0) | _ => 0
def lnRen (m : Mem) : List Nat := [0, mix m 0, mix m 1, mix m 2, mix m 3, mix m 4, mix m 5, mix m 6, mix m 7]
theorem o_one {K : ObK} {ρ : List Nat} {v : SV} {m : Mem} {v2 : SV} {x2 : Pay} (hd : K.Hid) (h2 : match idB 1 0 ρ, Nat.ble (K.mem x2 hd).length ρ.length, nodupB ρ, v2.ok 0, app2 (eqSV v2 v) (subMem ρ m 0 (K.mem x2 hd)) with
    | true, true, true, true, some l => allP l True
    | _, _, _, _, _ => False) (h1 : K.inv x2 hd) : anyO K ρ v m [.one v2 x2] := ⟨hd, h1, h2⟩
theorem put_ok {l : Ln} (h : LnOK l) (c : Int) (x : It) : LnOK (putL l c x) := by
  refine ⟨fun k hk => ?_, h.room, fun k hk r hr => ?_⟩
  · show (if putE l c x = 0 then up l.n c.toNat (l.n c.toNat + 1) else l.n) k ≤ 4096
    split
    · rename_i he
      unfold up
      split
      · rename_i hkc
        have hf : ¬ full l c.toNat x.dr := by
          unfold putE at he
          split at he
          · cases he
          · split at he
            · cases he
            · split at he
              · cases he
              · assumption
        have h1 := h.room k hk
        unfold full at hf
        rw [hkc] at h1
        omega
      · exact h.n k hk
    · exact h.n k hk
  · have hr : r < (if putE l c x = 0 then up l.n c.toNat (l.n c.toNat + 1) else l.n) k := hr
    show 0 ≤ (if putE l c x = 0 then up l.sz c.toNat (fun r => if r < l.n c.toNat then l.sz c.toNat r else x.sz) else l.sz) k r ∧ (if putE l c x = 0 then up l.sz c.toNat (fun r => if r < l.n c.toNat then l.sz c.toNat r else x.sz) else l.sz) k r ≤ 1600
    split at hr
    · rename_i he
      rw [if_pos he]
      unfold up at hr ⊢
      split at hr
      · rename_i hkc
        rw [if_pos hkc]
        split
        · rename_i h2
          exact h.sz _ (hkc ▸ hk) r h2
        · unfold putE at he
          split at he
          · cases he
          · omega
      · rename_i hkc
        rw [if_neg hkc]
        exact h.sz k hk r hr
    · rename_i he
      rw [if_neg he]
      exact h.sz k hk r hr
theorem put_n {l : Ln} {c : Int} {x : It} (he : putE l c x = 0) : (putL l c x).n = up l.n c.toNat (l.n c.toNat + 1) := if_pos he
theorem put_n' {l : Ln} {c : Int} {x : It} (he : putE l c x ≠ 0) : (putL l c x).n = l.n := if_neg he
theorem put_lost {l : Ln} {c : Int} {x : It} (he : putE l c x = 30) : (putL l c x).lost = up l.lost c.toNat (IntKind.i64.wrap (l.lost c.toNat + 1)) := if_pos he
theorem put_lost' {l : Ln} {c : Int} {x : It} (he : putE l c x ≠ 30) : (putL l c x).lost = l.lost := if_neg he
theorem put_id {l : Ln} {c : Int} {x : It} (he : putE l c x = 0) : (putL l c x).id = up l.id c.toNat (fun r => if r < l.n c.toNat then l.id c.toNat r else x.id) := if_pos he
theorem put_id' {l : Ln} {c : Int} {x : It} (he : putE l c x ≠ 0) : (putL l c x).id = l.id := if_neg he
theorem put_sz {l : Ln} {c : Int} {x : It} (he : putE l c x = 0) : (putL l c x).sz = up l.sz c.toNat (fun r => if r < l.n c.toNat then l.sz c.toNat r else x.sz) := if_pos he
theorem put_sz' {l : Ln} {c : Int} {x : It} (he : putE l c x ≠ 0) : (putL l c x).sz = l.sz := if_neg he
theorem put_dr {l : Ln} {c : Int} {x : It} (he : putE l c x = 0) : (putL l c x).dr = up l.dr c.toNat (fun r => if r < l.n c.toNat then l.dr c.toNat r else x.dr) := if_pos he
theorem put_dr' {l : Ln} {c : Int} {x : It} (he : putE l c x ≠ 0) : (putL l c x).dr = l.dr := if_neg he
theorem put_inv' {l : Ln} {h : LH} (hi : LnInv l h) {c : Int} {x : It} (he : putE l c x ≠ 0) : LnInv (putL l c x) h := by
  have key : ∀ {k : Nat} {q : HQ}, QOK l k q → QOK (putL l c x) k q := fun hq => ⟨by rw [put_n' he]; exact hq.n, hq.c, fun r hr => by rw [put_n' he] at hr; rw [put_id' he, put_sz' he, put_dr' he]; exact hq.at_ r hr⟩
  exact ⟨put_ok hi.ok c x, key hi.q0, key hi.q1, key hi.q2, key hi.q3, key hi.q4, key hi.q5, key hi.q6, key hi.q7⟩
theorem qput_ne {l : Ln} {c : Int} {x : It} (he : putE l c x = 0) {k : Nat} {q : HQ} (hk : k ≠ c.toNat) (hq : QOK l k q) : QOK (putL l c x) k q :=
  ⟨by rw [put_n he, up_ne _ _ hk]; exact hq.n, hq.c, fun r hr => by rw [put_n he, up_ne _ _ hk] at hr; rw [put_id he, put_sz he, put_dr he, up_ne _ _ hk, up_ne _ _ hk, up_ne _ _ hk]; exact hq.at_ r hr⟩
theorem qput_at {l : Ln} {c : Int} {x : It} (he : putE l c x = 0) {q q' : HQ} (hq : QOK l c.toNat q) (h1 : l.n c.toNat + 1 ≤ q'.c) (h2 : q'.c ≤ 9223372036854775807) (h3 : ∀ r, r < l.n c.toNat → q'.a r = q.a r ∧ q'.b r = q.b r ∧ q'.d r = q.d r) (h4 : q'.a (l.n c.toNat) = x.id ∧ q'.b (l.n c.toNat) = x.sz ∧ q'.d (l.n c.toNat) = x.dr) : QOK (putL l c x) c.toNat q' := by
  refine ⟨by rw [put_n he, up_at]; exact h1, h2, fun r hr => ?_⟩
  rw [put_n he, up_at] at hr
  rw [put_id he, put_sz he, put_dr he, up_at, up_at, up_at]
  by_cases h5 : r < l.n c.toNat
  · rw [if_pos h5, if_pos h5, if_pos h5]
    obtain ⟨e1, e2, e3⟩ := h3 r h5
    rw [e1, e2, e3]; exact hq.at_ r h5
  · rw [if_neg h5, if_neg h5, if_neg h5, show r = l.n c.toNat by omega]; exact h4
theorem put_1 {l : Ln} {c : Int} {x : It} (h : x.sz < 0 ∨ 1600 < x.sz) : putE l c x = 1 := if_pos h
theorem put_40 {l : Ln} {c : Int} {x : It} (h : ¬ (x.sz < 0 ∨ 1600 < x.sz)) (h2 : c < 0 ∨ 7 < c) : putE l c x = 40 := by unfold putE; rw [if_neg h, if_pos h2]
theorem put_30 {l : Ln} {c : Int} {x : It} (h : ¬ (x.sz < 0 ∨ 1600 < x.sz)) (h2 : ¬ (c < 0 ∨ 7 < c)) (h3 : full l c.toNat x.dr) : putE l c x = 30 := by unfold putE; rw [if_neg h, if_neg h2, if_pos h3]
theorem put_0 {l : Ln} {c : Int} {x : It} (h : ¬ (x.sz < 0 ∨ 1600 < x.sz)) (h2 : ¬ (c < 0 ∨ 7 < c)) (h3 : ¬ full l c.toNat x.dr) : putE l c x = 0 := by unfold putE; rw [if_neg h, if_neg h2, if_neg h3]
theorem lnOf_P (l : Ln) : lnOf (lnP l) = l := rfl
theorem put_room (l : Ln) (c : Int) (x : It) : (putL l c x).room = l.room := rfl

end Go.Proofs.Ytaadejgoafdbcaa
