/-
  A library of my own: functions of the program are carried out symbolically, and what is left to show is plain. Joined out of its parts by a program.
-/
import Derived.WalkKit
import Derived.Deep.Quiet
import Derived.StillTail
import Derived.KernelRfl
import Derived.Laws.Strings
import Derived.ChangeKeysEq
import Derived.Laws.MakeOwn
import Derived.Laws.BytesString
import Derived.Lib.AppendZerosOnto

/-
  A library of my own: functions of the program are carried out symbolically. Part 1: symbolic values, known memory, and what they say of a world.
-/
namespace Go.Sx

/-- Where each named region of memory begins. -/
abbrev Env := Nat → Option Addr

/-- A value of one cell. 'ptr i off': the address 'off' cells behind the beginning of region i; 'rp': cell c of row r there, a row having st cells; 'slc': a slice that begins at row r; 'gcl': a function bound to two numbers and a slice. -/
inductive SA where
  | v (x : Value)
  | pr (p : Prop) (d : Decidable p)
  | tt
  | ff
  | ptr (i off : Nat)
  | rp (i st r c : Nat)
  | slc (i st r len cap : Nat)
  | map (i : Nat)
  | clo (f : FuncId) (caps : List (Nat × Nat))
  | gcl (f : FuncId) (a b : Int) (i st r len cap : Nat)

def at_ (e : Env) (i off : Nat) : Option Addr := (e i).map (·.add off)

def SA.den (e : Env) : SA → Value
  | .v x => x
  | .pr p d => .bool (@decide p d)
  | .tt => .bool true
  | .ff => .bool false
  | .ptr i off => .pointer (at_ e i off)
  | .rp i st r c => .pointer (at_ e i (r * st + c))
  | .slc i st r len cap => .slice (at_ e i (r * st)) len cap
  | .map i => .map ((e i).map (·.block))
  | .clo f caps => .func (.func f) #[] (caps.map fun c => Value.pointer (at_ e c.1 c.2)).toArray
  | .gcl f a b i st r len cap => .func (.func f) #[.agg #[.int .i64 a, .int .i64 b, .slice (at_ e i (r * st)) len cap]] #[]

inductive SV1 where
  | a (x : SA)
  | agg (l : List SA)

def SV1.den (e : Env) : SV1 → Value
  | .a x => x.den e
  | .agg l => .agg (l.map (SA.den e)).toArray

inductive SV where
  | one (x : SV1)
  | tup (l : List SV1)

def SV.den (e : Env) : SV → Value
  | .one x => x.den e
  | .tup l => .tuple (l.map (SV1.den e)).toArray

/-- names below n alone -/
def SA.ok (n : Nat) : SA → Bool
  | .ptr i _ | .rp i _ _ _ | .slc i _ _ _ _ | .map i => Nat.blt i n
  | .clo _ caps => caps.all fun c => Nat.blt c.1 n
  | .gcl _ _ _ i _ _ _ _ => Nat.blt i n
  | _ => true
def SV1.ok (n : Nat) : SV1 → Bool
  | .a x => x.ok n
  | .agg l => l.all (SA.ok n)
def SV.ok (n : Nat) : SV → Bool
  | .one x => x.ok n
  | .tup l => l.all (SV1.ok n)

/-- One column of a table: what stands in row r. -/
inductive Col where
  | int (k : IntKind) (g : Nat → Int)
  | bool (g : Nat → Bool)
  | val (g : Nat → Value)

def Col.at_ : Col → Nat → Value
  | .int k g, r => .int k (g r)
  | .bool g, r => .bool (g r)
  | .val g, r => g r

/-- an entry of a map: its key's cells, its value's (a bool is 0 or 1), its number -/
structure MRow where
  k : List Int
  v : List Int
  b : Nat

/-- what an object holds, as plain data -/
structure Pay where
  is : List Int := []
  ns : List Nat := []
  bs : List Bool := []
  ng : List (Nat → Nat) := []
  gs : List (Nat → Int) := []
  hs : List (Nat → Bool) := []
  g2 : List (Nat → Nat → Int) := []
  h2 : List (Nat → Nat → Bool) := []
  mp : List (List MRow) := []

/-- What it is for an object of several blocks to be there: x, at A, in the blocks F and no others. -/
structure ObjI where
  ok : Pay → World → Option Addr → (Nat → Prop) → Prop
  some_ : ∀ {x w A F}, ok x w A F → ∃ a, A = some a
  lt : ∀ {x w A F}, ok x w A F → ∀ b, F b → b < w.heap.size
  frame : ∀ {x w A F w'}, ok x w A F → w.heap.size ≤ w'.heap.size → (∀ b, F b → w'.heap[b]? = w.heap[b]?) → ok x w' A F
  /-- values of which it tells, if it does -/
  dat : Nat → Value := fun _ => .pointer none
  num : Nat := 0

/-- What is known of a region: each cell's value ('flat'), or n rows by their columns; the first cells of n that are there ('room'); or that an object is there. -/
inductive Con where
  | flat (l : List SA)
  | tab (n : Nat) (cols : List Col)
  | room (n : Nat) (l : List SA)
  | obj (tag : Nat) (x : Pay) (I : ObjI)

structure Reg where
  rw : Bool
  con : Con

abbrev Mem := List (Option Reg)

def Con.cell (e : Env) : Con → Nat → Option Value
  | .flat l, j => (l[j]?).map (SA.den e)
  | .tab n cols, j => if j / cols.length < n then (cols[j % cols.length]?).map (·.at_ (j / cols.length)) else none
  | .room n l, j => if j < n then (l[j]?).map (SA.den e) else none
  | .obj .., _ => none
/-- does the region hold anything (in one block)? -/
def Con.some_ : Con → Prop
  | .flat l => l ≠ []
  | .tab n cols => 0 < n ∧ cols ≠ []
  | .room n _ => 0 < n
  | .obj .. => False
def Con.ok (n : Nat) : Con → Bool
  | .flat l => l.all (SA.ok n)
  | .room _ l => l.all (SA.ok n)
  | _ => true
/-- .. and no object -/
def Con.okN (n : Nat) : Con → Bool
  | .flat l => l.all (SA.ok n)
  | .room _ l => l.all (SA.ok n)
  | .obj .. => false
  | _ => true
theorem Con.okN_ok {n : Nat} {c : Con} (h : c.okN n = true) : c.ok n = true := by cases c <;> first | exact h | rfl | cases h
theorem Con.okN_not {n : Nat} {c : Con} (h : c.okN n = true) : ∀ t x I, c ≠ .obj t x I := by
  rintro t x I rfl
  cases h
def Mem.ok (m : Mem) : Bool := m.all fun r => match r with | some r => r.con.ok m.length | none => true

/-- A block of which nothing may not be written, but what lies behind its end. -/
def Thaw (w : World) (a : Addr) : Prop := ∀ c t lo hi, w.heap[a.block]? = some (.cells c t (lo, hi)) → lo = hi ∨ c.size ≤ lo

/-- A region of memory is as it is known. -/
structure RegOK (e : Env) (w : World) (A : Option Addr) (r : Reg) : Prop where
  cell : ∀ j v, r.con.cell e j = some v → ∃ a, A = some a ∧ w.cell? (a.add j) = some v ∧ (r.rw = true → Thaw w (a.add j))
  map : ∀ n l, r.con = .room n l → ∀ j, j < n → ∃ a v, A = some a ∧ w.cell? (a.add j) = some v ∧ (r.rw = true → Thaw w (a.add j))

/-- What is kept from the world w0 on: all blocks that were there, but those that W names. -/
structure Fr (w0 : World) (W : Nat → Prop) (w : World) : Prop where
  os : w.os = w0.os
  tape : w.tape = w0.tape
  output : w.output = w0.output
  size : w0.heap.size ≤ w.heap.size
  block : ∀ b, b < w0.heap.size → ¬ W b → w.heap[b]? = w0.heap[b]?

theorem Fr.refl (w : World) (W : Nat → Prop) : Fr w W w := ⟨rfl, rfl, rfl, Nat.le_refl _, fun _ _ _ => rfl⟩

/-- region i is an object -/
def IsO (m : Mem) (i : Nat) (x : Pay) (I : ObjI) : Prop := ∃ t, m[i]? = some (some ⟨true, .obj t x I⟩)

/-- the objects: each in blocks of its own -/
structure Objs (e : Env) (w0 : World) (W : Nat → Prop) (m : Mem) (w : World) (F : Nat → Nat → Prop) : Prop where
  ok : ∀ {i x I}, IsO m i x I → I.ok x w (e i) (F i)
  apart : ∀ {i j x y I J b}, i ≠ j → IsO m i x I → IsO m j y J → F i b → ¬ F j b
  off : ∀ {i j x I r a}, IsO m i x I → m[j]? = some (some r) → r.con.some_ → e j = some a → ¬ F i a.block
  wr : ∀ {i x I b}, IsO m i x I → F i b → W b ∨ w0.heap.size ≤ b

/-- what comes in and is not written: told of the first world alone -/
def ROs (e : Env) (w0 : World) (W : Nat → Prop) (m : Mem) : Prop := ∀ (i t : Nat) (x : Pay) (I : ObjI), m[i]? = some (some ⟨false, .obj t x I⟩) → ∃ G, I.ok x w0 (e i) G ∧ ∀ b, G b → ¬ W b
theorem ROs.to {e e' : Env} {w0 : World} {W : Nat → Prop} {m m' : Mem} (h : ROs e w0 W m) (hs : ∀ (i t : Nat) (x : Pay) (I : ObjI), m'[i]? = some (some ⟨false, .obj t x I⟩) → ∃ j, m[j]? = some (some ⟨false, .obj t x I⟩) ∧ e' i = e j) : ROs e' w0 W m' := fun i t x I hi => by
  obtain ⟨j, h1, h2⟩ := hs i t x I hi
  rw [h2]; exact h j t x I h1
theorem ROs.set {e : Env} {w0 : World} {W : Nat → Prop} {m : Mem} (h : ROs e w0 W m) (k : Nat) {r : Option Reg} (hr : ∀ (t : Nat) (x : Pay) (I : ObjI), r ≠ some ⟨false, .obj t x I⟩) : ROs e w0 W (m.set k r) := h.to fun i t x I hi => by
  by_cases hk : k = i
  · subst hk
    rcases Nat.lt_or_ge k m.length with hl | hl
    · rw [List.getElem?_set_self hl] at hi; exact absurd (Option.some.inj hi) (hr _ _ _)
    · rw [List.getElem?_eq_none (by simpa using hl)] at hi; cases hi
  · rw [List.getElem?_set_ne hk] at hi; exact ⟨i, hi, rfl⟩
theorem ROs.push {e e' : Env} {w0 : World} {W : Nat → Prop} {m : Mem} (h : ROs e w0 W m) {r : Option Reg} (hr : ∀ (t : Nat) (x : Pay) (I : ObjI), r ≠ some ⟨false, .obj t x I⟩) (hag : ∀ i, i < m.length → e' i = e i) : ROs e' w0 W (m ++ [r]) := h.to fun i t x I hi => by
  rcases Nat.lt_or_ge i m.length with hl | hl
  · rw [List.getElem?_append_left hl] at hi; exact ⟨i, hi, hag i hl⟩
  · rw [List.getElem?_append_right hl] at hi
    rcases Nat.eq_zero_or_pos (i - m.length) with h0 | h0
    · rw [h0] at hi; exact absurd (Option.some.inj hi) (hr _ _ _)
    · rw [List.getElem?_eq_none (by simp; omega)] at hi; cases hi
theorem ROs.none {e : Env} {w0 : World} {W : Nat → Prop} {m : Mem} (h : ∀ (i t : Nat) (x : Pay) (I : ObjI), m[i]? ≠ some (some ⟨false, .obj t x I⟩)) : ROs e w0 W m := fun i t x I hi => absurd hi (h i t x I)

structure Rel (e : Env) (w0 : World) (W : Nat → Prop) (m : Mem) (w : World) : Prop where
  fr : Fr w0 W w
  reg : ∀ i r, m[i]? = some (some r) → RegOK e w (e i) r
  sep : ∀ i j ri rj a b, i ≠ j → m[i]? = some (some ri) → m[j]? = some (some rj) → ri.rw = true → ri.con.some_ → rj.con.some_ → e i = some a → e j = some b → a.block ≠ b.block
  wr : ∀ i r a, m[i]? = some (some r) → r.rw = true → r.con.some_ → e i = some a → W a.block ∨ w0.heap.size ≤ a.block
  obj : ∃ F, Objs e w0 W m w F
  ro : ROs e w0 W m

/-- the same objects, in another memory and another world -/
theorem Objs.to {e e' : Env} {w0 : World} {W : Nat → Prop} {m m' : Mem} {w w' : World} {F : Nat → Nat → Prop} (h : Objs e w0 W m w F) (hsub : ∀ {j x I}, IsO m' j x I → IsO m j x I ∧ e' j = e j) (hsz : w.heap.size ≤ w'.heap.size)
    (hblk : ∀ {j x I b}, IsO m' j x I → F j b → w'.heap[b]? = w.heap[b]?) (hoff : ∀ {i x I j r a}, IsO m' i x I → m'[j]? = some (some r) → r.con.some_ → e' j = some a → ¬ F i a.block) : Objs e' w0 W m' w' F :=
  ⟨fun hi => by
    obtain ⟨h1, h2⟩ := hsub hi
    rw [h2]
    rename_i I
    exact I.frame (h.ok h1) hsz fun b hb => hblk hi hb,
  fun hij hi hj hb => h.apart hij (hsub hi).1 (hsub hj).1 hb, fun hi hj hs ha => hoff hi hj hs ha, fun hi hb => h.wr (hsub hi).1 hb⟩
/-- none -/
theorem Objs.empty {e : Env} {w0 : World} {W : Nat → Prop} {m : Mem} {w : World} (h : ∀ i x I, ¬ IsO m i x I) : ∃ F, Objs e w0 W m w F :=
  ⟨fun _ _ => False, fun hi => absurd hi (h _ _ _), fun _ hi => absurd hi (h _ _ _), fun hi => absurd hi (h _ _ _), fun hi => absurd hi (h _ _ _)⟩
theorem IsO.of_set {m : Mem} {i j : Nat} {r : Option Reg} {x : Pay} {I : ObjI} (h : IsO (m.set i r) j x I) (hr : ∀ rw t x I, r ≠ some ⟨rw, .obj t x I⟩) : j ≠ i ∧ IsO m j x I := by
  obtain ⟨t, h⟩ := h
  by_cases hij : i = j
  · subst hij
    rcases Nat.lt_or_ge i m.length with hl | hl
    · rw [List.getElem?_set_self hl] at h
      exact absurd (Option.some.inj h) (hr _ _ _ _)
    · rw [List.getElem?_eq_none (by simpa using hl)] at h; cases h
  · rw [List.getElem?_set_ne hij] at h
    exact ⟨Ne.symm hij, t, h⟩
theorem IsO.of_push {m : Mem} {j : Nat} {r : Option Reg} {x : Pay} {I : ObjI} (h : IsO (m ++ [r]) j x I) (hr : ∀ rw t x I, r ≠ some ⟨rw, .obj t x I⟩) : j < m.length ∧ IsO m j x I := by
  obtain ⟨t, h⟩ := h
  rcases Nat.lt_or_ge j m.length with hl | hl
  · rw [List.getElem?_append_left hl] at h
    exact ⟨hl, t, h⟩
  · rw [List.getElem?_append_right hl] at h
    rcases Nat.eq_zero_or_pos (j - m.length) with h0 | h0
    · rw [h0] at h; exact absurd (Option.some.inj h) (hr _ _ _ _)
    · rw [List.getElem?_eq_none (by simp; omega)] at h; cases h
theorem IsO.lt {m : Mem} {j : Nat} {x : Pay} {I : ObjI} (h : IsO m j x I) : j < m.length := by
  obtain ⟨_, h⟩ := h
  exact (List.getElem?_eq_some_iff.1 h).1

theorem add_block (a : Addr) (n : Nat) : (a.add n).block = a.block := by unfold Addr.add; split <;> rfl
theorem add_add (a : Addr) (i j : Nat) : (a.add i).add j = a.add (i + j) := by
  unfold Addr.add
  by_cases hi : i = 0 <;> by_cases hj : j = 0 <;> simp [hi, hj, Nat.add_assoc]
theorem Con.some_of_cell {e : Env} {c : Con} {j : Nat} {v : Value} (h : c.cell e j = some v) : c.some_ := by
  cases c with
  | flat l => intro hl; subst hl; simp [Con.cell] at h
  | tab n cols =>
    simp only [Con.cell] at h
    split at h
    · rename_i hlt
      refine ⟨Nat.lt_of_le_of_lt (Nat.zero_le _) hlt, ?_⟩
      rintro rfl
      simp at h
    · cases h
  | room n l =>
    simp only [Con.cell] at h
    split at h
    · rename_i hlt
      exact Nat.lt_of_le_of_lt (Nat.zero_le _) hlt
    · cases h
  | obj t x I => cases h

theorem RegOK.lt {e : Env} {w : World} {a : Addr} {r : Reg} (h : RegOK e w (some a) r) (hs : r.con.some_) : a.block < w.heap.size := by
  cases hc : r.con with
  | flat l =>
    rw [hc] at hs
    cases l with
    | nil => exact absurd rfl hs
    | cons x l =>
      obtain ⟨a', ha, hcell, _⟩ := h.cell 0 (x.den e) (by rw [hc]; rfl)
      cases ha
      have := block_lt_of_cell hcell
      rwa [add_block] at this
  | tab n cols =>
    rw [hc] at hs
    obtain ⟨hn, hcl⟩ := hs
    cases cols with
    | nil => exact absurd rfl hcl
    | cons x l =>
      obtain ⟨a', ha, hcell, _⟩ := h.cell 0 (x.at_ 0) (by rw [hc]; simp [Con.cell, hn])
      cases ha
      have := block_lt_of_cell hcell
      rwa [add_block] at this
  | room n l =>
    rw [hc] at hs
    obtain ⟨a', v, ha, hcell, _⟩ := h.map n l hc 0 hs
    cases ha
    have := block_lt_of_cell hcell
    rwa [add_block] at this
  | obj t x I => rw [hc] at hs; exact hs.elim

/-! ### Known slots -/

/-- slot number and value, the newest first -/
abbrev Slots := List (Nat × SV)

def Slots.get : Slots → Nat → Option SV
  | [], _ => none
  | (k, v) :: t, i => match Nat.beq k i with | true => some v | false => Slots.get t i

structure St where
  n : Nat
  t : Slots
  m : Mem

def St.ev (S : St) : Operand → Option SV
  | .tmp t => S.t.get t
  | .const v => (match v with
    | .bool true => some (.one (.a .tt))
    | .bool false => some (.one (.a .ff))
    | .agg cs => some (.one (.agg (cs.toList.map .v)))
    | .tuple _ => none
    | v => some (.one (.a (.v v))))
  | .global _ => none
  | .func f => some (.one (.a (.clo f [])))

structure RelT (e : Env) (S : St) (a : Act) : Prop where
  size : a.tmps.size = S.n
  defers : a.defers = []
  get : ∀ i v, S.t.get i = some v → a.tmps[i]? = some (v.den e)

theorem evOk {e : Env} {S : St} {a : Act} (h : RelT e S a) {x : Operand} {v : SV} (hx : S.ev x = some v) : a.eval x = v.den e := by
  cases x with
  | tmp t =>
    have := h.get t v hx
    simp [Act.eval, this]
  | const c =>
    simp only [St.ev] at hx
    split at hx <;> first
      | (cases hx; simp [Act.eval, SV.den, SV1.den, SA.den]; done)
      | (cases hx; simp only [Act.eval, SV.den, SV1.den]; simp [SA.den, Function.comp_def]; done)
      | (cases hx)
  | global g => cases hx
  | func f => cases hx; simp [Act.eval, SV.den, SV1.den, SA.den]

/-- a value is put into a slot -/
def St.put (S : St) (d : Option Tmp) (v : SV) : St :=
  match d with
  | some d => { S with t := (d, v) :: S.t }
  | none => S

/-- the slot is there -/
def St.can (S : St) (d : Option Tmp) : Bool :=
  match d with
  | some d => Nat.blt d S.n
  | none => true

theorem blt_iff {a b : Nat} : Nat.blt a b = true ↔ a < b := by simp [Nat.blt, Nat.lt_iff_add_one_le]

theorem RelT.put {e : Env} {S : St} {a : Act} (h : RelT e S a) {d : Option Tmp} (hd : S.can d = true) {v : SV} {x : Value} (hv : x = v.den e) : RelT e (S.put d v) (a.put d x) := by
  subst hv
  cases d with
  | none => exact h
  | some d =>
    have hlt : d < S.n := blt_iff.1 hd
    refine ⟨by simp [Act.put, St.put, h.size], h.defers, fun i u hi => ?_⟩
    simp only [St.put, Slots.get] at hi
    simp only [Act.put]
    by_cases hdi : d = i
    · subst hdi
      rw [show Nat.beq d d = true from Nat.beq_refl d] at hi
      cases hi
      rw [Array.getElem?_setIfInBounds]
      simp [h.size, hlt]
    · have : Nat.beq d i = false := by
        cases hb : Nat.beq d i with
        | false => rfl
        | true => exact absurd (Nat.eq_of_beq_eq_true hb) hdi
      rw [this] at hi
      rw [Array.getElem?_setIfInBounds_ne hdi]
      exact h.get i u hi

theorem St.put_m (S : St) (d : Option Tmp) (v : SV) : (S.put d v).m = S.m := by cases d <;> rfl
theorem St.put_n (S : St) (d : Option Tmp) (v : SV) : (S.put d v).n = S.n := by cases d <;> rfl

/-- an operation that is not wanted leaves nothing: the slot is forgotten (its value is 'undef') -/
theorem RelT.skip {e : Env} {S : St} {a : Act} (h : RelT e S a) {d : Option Tmp} (hd : S.can d = true) : RelT e (S.put d (.tup [])) (a.put d undef) :=
  h.put hd (by rfl)

end Go.Sx

/-
  Part 2: what an operation does to symbolic values and known memory.
-/
namespace Go.Sx

def Mem.reg (m : Mem) (i : Nat) : Option Reg := match m[i]? with | some (some r) => some r | _ => none

/-- what stands behind a slice's end, up to its capacity -/
structure Tail where
  i : Nat → Nat → Int
  b : Nat → Nat → Bool
  v : Nat → Nat → Value

/-- What an operation comes to. 'ob': what must be shown. -/
inductive R where
  | val (ob : Option Prop) (v : SV)
  | pl (ob : Option Prop) (x : Int) (n : Nat) (f : Nat → SV)
  | new (ob : Option Prop) (r : Reg) (v : Nat → SV)
  | wr (ob : Option Prop) (i : Nat) (r : Reg)
  | wrv (ob : Option Prop) (i : Nat) (r : Reg) (v : SV)
  | call (f : FuncId) (args : List SV)
  | app (ob : Prop) (gone : Option Nat) (st len : Nat) (reg : Nat → Tail → Reg)
  | bad

def toSA : Value → SA
  | .bool true => .tt
  | .bool false => .ff
  | v => .v v

def Col.sa : Col → Nat → SA
  | .int k g, r => .v (.int k (g r))
  | .bool g, r => .v (.bool (g r))
  | .val g, r => .v (g r)

/-- k cells at an address -/
def cellsAt (m : Mem) (p : SA) (k : Nat) : Option (Option Prop × List SA) :=
  match p with
  | .ptr i off => (match m.reg i with
    | some ⟨_, .flat l⟩ => (match Nat.ble (off + k) l.length with | true => some (none, (l.drop off).take k) | false => none)
    | some ⟨_, .tab n [q]⟩ => some (some (off + k ≤ n), (List.range k).map fun j => q.sa (off + j))
    | _ => none)
  | .rp i st r c => (match m.reg i with
    | some ⟨_, .tab n cols⟩ => (match Nat.beq st cols.length, Nat.ble (c + k) st with
      | true, true => some (some (r < n), ((cols.drop c).take k).map fun q => q.sa r)
      | _, _ => none)
    | _ => none)
  | _ => none

def SA.one : SA → Bool
  | .v x => x.oneCell'
  | _ => true

def kindEq : IntKind → IntKind → Bool
  | .i8, .i8 | .i16, .i16 | .i32, .i32 | .i64, .i64 | .u8, .u8 | .u16, .u16 | .u32, .u32 | .u64, .u64 => true
  | _, _ => false

def Col.set : Col → Nat → SA → Option Col
  | .int k g, r, .v (.int k' n) => match kindEq k k' with | true => some (.int k fun q => if q = r then n else g q) | false => none
  | .bool g, r, .tt => some (.bool fun q => if q = r then true else g q)
  | .bool g, r, .ff => some (.bool fun q => if q = r then false else g q)
  | .bool g, r, .pr p d => some (.bool fun q => if q = r then @decide p d else g q)
  | .bool g, r, .v (.bool b) => some (.bool fun q => if q = r then b else g q)
  | .val g, r, .v x => some (.val fun q => if q = r then x else g q)
  | _, _, _ => none

def setCols (r : Nat) : List Col → List SA → Option (List Col)
  | [], [] => some []
  | q :: qs, x :: xs => (match Col.set q r x, setCols r qs xs with | some q', some qs' => some (q' :: qs') | _, _ => none)
  | _, _ => none

/-- values are stored at an address -/
def setAt (m : Mem) (p : SA) (xs : List SA) : Option (Option Prop × Nat × Reg) :=
  match p with
  | .ptr i off => (match m.reg i with
    | some ⟨true, .flat l⟩ => (match Nat.ble (off + xs.length) l.length with
      | true => some (none, i, ⟨true, .flat (l.take off ++ xs ++ l.drop (off + xs.length))⟩)
      | false => none)
    | _ => none)
  | .rp i st r c => (match m.reg i with
    | some ⟨true, .tab n cols⟩ => (match Nat.beq st cols.length, Nat.ble (c + xs.length) st, setCols r ((cols.drop c).take xs.length) xs with
      | true, true, some new => some (some (r < n), i, ⟨true, .tab n (cols.take c ++ new ++ cols.drop (c + xs.length))⟩)
      | _, _, _ => none)
    | _ => none)
  | _ => none

def isAgg' : TypeDesc → Bool
  | .struct _ | .array _ _ => true
  | _ => false

def SV1.cells : SV1 → List SA
  | .a x => [x]
  | .agg l => l

/-- does the address lead somewhere (so that it is not nil)? -/
def leads (m : Mem) : SA → Bool
  | .ptr i _ | .rp i _ _ _ => (match m.reg i with
    | some ⟨_, .flat (_ :: _)⟩ => true
    | some ⟨true, .obj ..⟩ => true
    | _ => false)
  | .v (.pointer (some _)) => true
  | .clo .. => true
  | _ => false

/-- under which condition an address is not nil -/
def ptsOb (m : Mem) (p : SA) : Option (Option Prop) :=
  match leads m p with
  | true => some none
  | false => (match p with
    | .rp i _ r _ => (match m.reg i with | some ⟨_, .tab n (_ :: _)⟩ => some (some (r < n)) | _ => none)
    | _ => none)

def andO : Option Prop → Prop → Prop
  | none, p => p
  | some q, p => q ∧ p

section
variable (P : Program)

def rdLoad (m : Mem) (t : TypeId) (p : SA) : R :=
  match P.underlying t, P.info? t with
  | some d, some i => (match isAgg' d, Nat.blt 0 i.size with
    | true, true => (match cellsAt m p i.size with | some (ob, l) => .val ob (.one (.agg l)) | none => .bad)
    | false, _ => (match cellsAt m p 1 with | some (ob, [x]) => .val ob (.one (.a x)) | _ => .bad)
    | _, _ => .bad)
  | _, _ => .bad

def rdStore (m : Mem) (t : TypeId) (p : SA) (x : SV1) : R :=
  match P.info? t with
  | some i => (match Nat.beq i.size x.cells.length, Nat.blt 0 i.size, x.cells.all SA.one, setAt m p x.cells with
    | true, true, true, some (ob, j, r) => .wr ob j r
    | _, _, _, _ => .bad)
  | none => .bad

def rdField (m : Mem) (t : TypeId) (p : SA) (f : Nat) : R :=
  match P.underlying t with
  | some (.struct fs) => (match fs[f]? with
    | some fl => (match P.info? fl.type with
      | some i => (match Nat.beq i.size 0, ptsOb m p, p with
        | false, some ob, .ptr j off => .val ob (.one (.a (.ptr j (off + fl.offset))))
        | false, some ob, .rp j st r c => .val ob (.one (.a (.rp j st r (c + fl.offset))))
        | _, _, _ => .bad)
      | none => .bad)
    | none => .bad)
  | _ => .bad

/-- alternatives for a number that is an index of n places -/
def places (x : Int) (n : Nat) (f : Nat → SV) : List (Prop × SV) := (List.range n).map fun (j : Nat) => (x = (j : Int), f j)

/-- is it a constant, and a place? -/
def constPlace (ix : Operand) (n : Nat) : Option Nat :=
  match ix with
  | .const (.int _ (.ofNat j)) => (match Nat.blt j n with | true => some j | false => none)
  | _ => none

def SA.elemAt (sz : Nat) : SA → Nat → Option SA
  | .ptr i off, j => some (.ptr i (off + j * sz))
  | .rp i st r c, j => some (.rp i st r (c + j * sz))
  | _, _ => none

/-- an array that is known as rows -/
def tabAt (m : Mem) (x : SA) (sz : Nat) : Option (Nat × Nat) :=
  match x with
  | .ptr i 0 => (match m.reg i with
    | some ⟨_, .tab N cols⟩ => (match Nat.beq sz cols.length, Nat.beq sz 0 with | true, false => some (i, N) | _, _ => none)
    | _ => none)
  | _ => none

def rdIndexAddr (m : Mem) (t : TypeId) (x : SA) (ix : Operand) (iv : SA) : R :=
  match P.underlying t, iv with
  | some (.slice el), .v (.int _ n) => (match P.info? el, x with
    | some inf, .slc i st r len _ => (match m.reg i with
      | some ⟨_, .tab N cols⟩ => (match Nat.beq st inf.size, Nat.beq st cols.length, Nat.beq st 0 with
        | true, true, false => .val (some (0 ≤ n ∧ n < len ∧ r + n.toNat < N)) (.one (.a (.rp i st (r + n.toNat) 0)))
        | _, _, _ => .bad)
      | _ => .bad)
    | _, _ => .bad)
  | some (.array len el), .v (.int _ n) => (match P.info? el, Nat.ble 2 len with
    | some inf, true => (match x with
      | .ptr _ _ | .rp _ _ _ _ => (match tabAt m x inf.size with
        | some (i, N) => .val (some (0 ≤ n ∧ n < len ∧ n.toNat < N)) (.one (.a (.rp i inf.size n.toNat 0)))
        | none => (match ptsOb m x, constPlace ix len with
          | some ob, some j => (match SA.elemAt inf.size x j with | some p => .val ob (.one (.a p)) | none => .bad)
          | some ob, none => R.pl ob n len fun j => match SA.elemAt inf.size x j with | some p => .one (.a p) | none => .tup []
          | none, _ => .bad))
      | _ => .bad)
    | _, _ => .bad)
  | _, _ => .bad

/-- a part of an aggregate's cells -/
def partOf (t : TypeId) (cs : List SA) (off : Nat) : Option SV1 :=
  match P.underlying t, P.info? t with
  | some d, some i => (match isAgg' d with
    | true => (match Nat.ble (off + i.size) cs.length with | true => some (.agg ((cs.drop off).take i.size)) | false => none)
    | false => (match cs[off]? with | some x => some (.a x) | none => none))
  | _, _ => none

def rdPart (t : TypeId) (x : SV1) (f : Nat) : R :=
  match P.underlying t, x with
  | some (.struct fs), .agg cs => (match fs[f]? with
    | some fl => (match partOf P fl.type cs fl.offset with | some v => .val none (.one v) | none => .bad)
    | none => .bad)
  | _, _ => .bad

def rdIndex (t : TypeId) (x : SV1) (ix : Operand) (iv : SA) : R :=
  match P.underlying t, x, iv with
  | some (.array len el), .agg cs, .v (.int _ n) => (match P.info? el with
    | some inf => (match constPlace ix len with
      | some j => (match partOf P el cs (j * inf.size) with | some v => .val none (.one v) | none => .bad)
      | none => (match (List.range len).all fun j => (partOf P el cs (j * inf.size)).isSome with
        | true => R.pl none n len fun j => match partOf P el cs (j * inf.size) with | some v => .one v | none => .tup []
        | false => .bad))
    | none => .bad)
  | some .string, .a (.v (.string s)), .v (.int _ n) => .val (some (0 ≤ n ∧ n < s.size)) (.one (.a (.v (.int .u8 ((s.data.toList.getD n.toNat 0).toNat : Int)))))
  | _, _, _ => .bad

def boolOf : SA → Option Bool
  | .tt => some true
  | .ff => some false
  | .pr p d => some (@decide p d)
  | .v (.bool b) => some b
  | _ => none

/-- a constant that is not 0 -/
def constNot0 : Operand → Bool
  | .const (.int _ (.ofNat (_ + 1))) => true
  | .const (.int _ (.negSucc _)) => true
  | _ => false
def constNat : Operand → Bool
  | .const (.int _ (.ofNat _)) => true
  | _ => false

def int_ (k : IntKind) (n : Int) : SV := .one (.a (.v (.int k n)))
def pr_ (p : Prop) [d : Decidable p] : SV := .one (.a (.pr p d))

def eqFs (R : TypeId → SV1 → SV1 → Option Bool) (xs ys : List SA) : List Field → Option Bool
  | [] => some true
  | f :: l => (match f.name == "_", partOf P f.type xs f.offset, partOf P f.type ys f.offset with
    | false, some x, some y => (match R f.type x y, eqFs R xs ys l with | some a, some b => some (a && b) | _, _ => none)
    | _, _, _ => none)
def eqIs (R : TypeId → SV1 → SV1 → Option Bool) (el : TypeId) (n : Nat) (xs ys : List SA) : List Nat → Option Bool
  | [] => some true
  | i :: l => (match partOf P el xs (i * n), partOf P el ys (i * n) with
    | some x, some y => (match R el x y, eqIs R el n xs ys l with | some a, some b => some (a && b) | _, _ => none)
    | _, _ => none)
/-- '==' at type t -/
def eqV : Nat → TypeId → SV1 → SV1 → Option Bool
  | 0, _, _, _ => none
  | d + 1, t, x, y => (match P.underlying t, x, y with
    | some (.int _), .a (.v (.int k a)), .a (.v (.int k' b)) => (match kindEq k k' with | true => some (decide (a = b)) | false => none)
    | some .bool, .a x, .a y => (match boolOf x, boolOf y with | some a, some b => some (a == b) | _, _ => none)
    | some .string, .a (.v (.string a)), .a (.v (.string b)) => some (a.toList == b.toList)
    | some (.struct fs), .agg xs, .agg ys => eqFs P (eqV d) xs ys fs.toList
    | some (.array n el), .agg xs, .agg ys => (match P.info? el with | some i => eqIs P (eqV d) el i.size xs ys (List.range n) | none => none)
    | _, _, _ => none)
def stoodOK : Nat → TypeId → Bool
  | 0, _ => false
  | d + 1, t => (match P.underlying t with
    | some (.struct fs) => !P.stoodInHeld t && fs.toList.all fun f => stoodOK d f.type
    | some (.array _ el) => stoodOK d el
    | _ => true)
/-- what is to be shown of a type whose values are compared: once for each type -/
def EqOK (t : TypeId) : Prop := (!P.eqGuardType P.depth t && stoodOK P 8 t) = true

def rdInt (op : BinOp) (y : Operand) (k : IntKind) (a b : Int) : R :=
  match op with
  | .add => .val none (int_ k (k.wrap (a + b)))
  | .sub => .val none (int_ k (k.wrap (a - b)))
  | .mul => .val none (int_ k (k.wrap (a * b)))
  | .quo => .val (match constNot0 y with | true => none | false => some (b ≠ 0)) (int_ k (k.wrap (a.tdiv b)))
  | .rem => .val (match constNot0 y with | true => none | false => some (b ≠ 0)) (int_ k (a.tmod b))
  | .and => .val none (int_ k (bits .and k a b))
  | .or => .val none (int_ k (bits .or k a b))
  | .xor => .val none (int_ k (bits .xor k a b))
  | .andNot => .val none (int_ k (bits .andNot k a b))
  | .eql => .val none (pr_ (a = b))
  | .neq => .val none (pr_ (¬ a = b))
  | .lss => .val none (pr_ (a < b))
  | .leq => .val none (pr_ (a ≤ b))
  | .gtr => .val none (pr_ (b < a))
  | .geq => .val none (pr_ (b ≤ a))
  | _ => .bad

def rdBin (m : Mem) (op : BinOp) (t : TypeId) (y : Operand) (xv yv : SV1) : R :=
  match op, xv, yv with
  | .shl, .a (.v (.int k a)), .a (.v (.int _ b)) => .val (match constNat y with | true => none | false => some (0 ≤ b)) (int_ k (k.wrap (a * 2 ^ min b.toNat k.bits)))
  | .shr, .a (.v (.int k a)), .a (.v (.int _ b)) => .val (match constNat y with | true => none | false => some (0 ≤ b)) (int_ k (a.fdiv (2 ^ min b.toNat k.bits)))
  | op, .a (.v (.int k a)), .a (.v (.int k' b)) => (match kindEq k k' with | true => rdInt op y k a b | false => .bad)
  | .eql, .a x, .a (.v (.pointer none)) => (match x, P.underlying t with
    | .v (.pointer none), some (.pointer _) => .val none (.one (.a .tt))
    | x, some (.pointer _) => (match leads m x, x with
      | true, .ptr _ _ | true, .rp _ _ _ _ | true, .v (.pointer _) => .val none (.one (.a .ff))
      | _, _ => .bad)
    | _, _ => .bad)
  | .neq, .a x, .a (.v (.pointer none)) => (match x, P.underlying t with
    | .v (.pointer none), some (.pointer _) => .val none (.one (.a .ff))
    | x, some (.pointer _) => (match leads m x, x with
      | true, .ptr _ _ | true, .rp _ _ _ _ | true, .v (.pointer _) => .val none (.one (.a .tt))
      | _, _ => .bad)
    | _, _ => .bad)
  | .eql, .agg xs, .agg ys => (match eqV P 8 t (.agg xs) (.agg ys) with | some b => .val (some (EqOK P t)) (.one (.a (.v (.bool b)))) | none => .bad)
  | .neq, .agg xs, .agg ys => (match eqV P 8 t (.agg xs) (.agg ys) with | some b => .val (some (EqOK P t)) (.one (.a (.v (.bool (!b))))) | none => .bad)
  | .eql, .a x, .a y => (match x, y with
    | .v (.string a), .v (.string b) => .val none (.one (.a (.v (.bool (a.toList == b.toList)))))
    | x, y => (match boolOf x, boolOf y, P.underlying t with | some a, some b, some .bool => .val none (.one (.a (.v (.bool (a == b))))) | _, _, _ => .bad))
  | .neq, .a x, .a y => (match x, y with
    | .v (.string a), .v (.string b) => .val none (.one (.a (.v (.bool (!(a.toList == b.toList))))))
    | x, y => (match boolOf x, boolOf y, P.underlying t with | some a, some b, some .bool => .val none (.one (.a (.v (.bool (!(a == b)))))) | _, _, _ => .bad))
  | _, _, _ => .bad

def rdUn (op : UnOp) (x : SA) : R :=
  match op, x with
  | .neg, .v (.int k n) => .val none (int_ k (k.wrap (0 - n)))
  | .xor, .v (.int k n) => .val none (int_ k (bits .xor k (if k.signed then -1 else k.max) n))
  | .not, .tt => .val none (.one (.a .ff))
  | .not, .ff => .val none (.one (.a .tt))
  | .not, .pr p d => .val none (.one (.a (.pr (¬ p) (@instDecidableNot p d))))
  | .not, .v (.bool b) => .val none (.one (.a (.v (.bool (!b)))))
  | _, _ => .bad

def rdConv (s d : TypeId) (x : SV1) : R :=
  match P.underlying s, P.underlying d, x with
  | some _, some (.int k), .a (.v (.int _ n)) => .val none (int_ k (k.wrap n))
  | _, _, _ => .bad

/-- the bytes r, .. of a row -/
def bytesOf (g : Nat → Int) (r len : Nat) : ByteArray := ((List.range len).map fun q => g (r + q)).foldl (fun s n => s.push (UInt8.ofNat n.toNat)) ByteArray.empty

/-- bytes as a string, and back -/
def rdStr (m : Mem) (s d : TypeId) (x : SV1) : R :=
  match P.underlying s, P.underlying d, x with
  | some (.slice el), some .string, .a (.slc i st r len _) => (match P.underlying el, m.reg i, Nat.beq st 1 with
    | some (.int .u8), some ⟨_, .tab N [.int .u8 g]⟩, true => .val (some (r + len ≤ N)) (.one (.a (.v (.string (bytesOf g r len)))))
    | _, _, _ => .bad)
  | some (.slice el), some .string, .a (.v (.slice none _ _)) => (match P.underlying el with
    | some (.int .u8) => .val none (.one (.a (.v (.string .empty))))
    | _ => .bad)
  | some .string, some (.slice el), .a (.v (.string b)) => (match P.underlying el with
    | some (.int .u8) => .app (b.size ≤ 137438953472) none 1 b.size fun cap _ => ⟨true, .tab cap [.int .u8 fun q => if q < b.size then ((b.data.toList.getD q 0).toNat : Int) else 0]⟩
    | _ => .bad)
  | some (.slice el), some (.slice _), .a (.slc i st r len cap) => (match P.underlying el, m.reg i, Nat.beq s d, Nat.beq st 1, Nat.beq r 0 with
    | some (.int .u8), some ⟨true, .tab N [.int .u8 g]⟩, true, true, true => .app (len ≤ cap ∧ cap ≤ N ∧ cap ≤ 9223372036854775807 ∧ 0 < N) (some i) 1 len fun cap t => ⟨true, .tab cap [.int .u8 fun q => if q < len then g q else t.i 0 q]⟩
    | _, _, _, _, _ => .bad)
  | _, _, _ => .bad

/-- a list brought to plain form -/
def fLS.{u, v} {α : Type u} {β : Type v} : List α → (List α → β) → β
  | [], k => k []
  | x :: l, k => fLS l fun t => k (x :: t)
theorem fLS_eq.{u, v} {α : Type u} {β : Type v} : ∀ (l : List α) (K : List α → β), fLS l K = K l
  | [], _ => rfl
  | x :: l, K => fLS_eq l fun t => K (x :: t)
/-- parts put into cells -/
def fillL (place : Nat → Option (Nat × Nat)) (cells : List SA) : List (Nat × SV1) → Option (List SA)
  | [] => some cells
  | (i, v) :: rest => (match place i with
    | none => none
    | some (off, size) => (match Nat.beq v.cells.length size, Nat.ble (off + v.cells.length) cells.length with
      | true, true => fLS (cells.take off ++ v.cells ++ cells.drop (off + v.cells.length)) fun cells => fillL place cells rest
      | _, _ => none))

def evs (S : St) : List (Nat × Operand) → Option (List (Nat × SV1))
  | [] => some []
  | (i, x) :: l => (match S.ev x, evs S l with | some (.one v), some r => (match v.cells.all SA.one with | true => some ((i, v) :: r) | false => none) | _, _ => none)

def placesOf : List Field → Option (List (Nat × Nat))
  | [] => some []
  | f :: l => (match P.info? f.type, placesOf l with | some i, some r => some ((f.offset, i.size) :: r) | _, _ => none)

def rdBuild (t : TypeId) (parts : List (Nat × SV1)) : R :=
  match P.info? t, P.underlying t with
  | some i, some (.struct fs) => (match i.zero, placesOf P fs.toList with
    | some z, some ps => (match fillL (fun j => ps[j]?) (z.cells.toList.map toSA) parts with | some cs => .val none (.one (.agg cs)) | none => .bad)
    | _, _ => .bad)
  | some i, some (.array _ el) => (match i.zero, P.info? el with
    | some z, some inf => (match fillL (fun j => some (j * inf.size, inf.size)) (z.cells.toList.map toSA) parts with | some cs => .val none (.one (.agg cs)) | none => .bad)
    | _, _ => .bad)
  | _, _ => .bad

/-- cells c, c + st, .. as one column -/
def every (st : Nat) : Nat → List SA → List SA
  | 0, _ => []
  | n + 1, l => (match l with | [] => [] | x :: _ => x :: every st n (l.drop st))

def intsOf : List SA → Option (IntKind × List Int)
  | [.v (.int k n)] => some (k, [n])
  | .v (.int k n) :: l => (match intsOf l with | some (k', r) => (match kindEq k k' with | true => some (k, n :: r) | false => none) | none => none)
  | _ => none
def boolsOf : List SA → Option (List Bool)
  | [] => some []
  | x :: l => (match boolOf x, boolsOf l with | some b, some r => some (b :: r) | _, _ => none)
/-- slices that are none -/
def nilsOf : List SA → Bool
  | [] => true
  | .v (.slice none 0 0) :: l => nilsOf l
  | _ => false
def colOf (l : List SA) : Option Col :=
  match intsOf l with
  | some (k, ns) => some (.int k fun r => ns.getD r 0)
  | none => (match boolsOf l with
    | some bs => some (.bool fun r => bs.getD r false)
    | none => (match nilsOf l with | true => some (.val fun _ => .slice none 0 0) | false => none))

def colsOf (st n : Nat) (l : List SA) : Nat → Option (List Col)
  | 0 => some []
  | c + 1 => (match colOf (every st n (l.drop (st - (c + 1)))), colsOf st n l c with | some q, some r => some (q :: r) | _, _ => none)

/-- known cells as rows of st cells, if they are numbers and bools -/
def asRows (st n : Nat) (l : List SA) : Con :=
  match colsOf st n l st with
  | some cols => .tab n cols
  | none => .flat l

def repl (n : Nat) (z : List SA) : List SA :=
  match n with
  | 0 => []
  | n + 1 => z ++ repl n z

def zeroCol : Value → Col
  | .int k n => .int k fun _ => n
  | .bool b => .bool fun _ => b
  | v => .val fun _ => v

/-- the rows of a slice that is built -/
def rowsCon (z : List Value) (st n : Nat) (l : List SA) : Con :=
  match n with
  | 0 => .tab 0 (z.map zeroCol)
  | n + 1 => asRows st (n + 1) l

def rdBuildSlice (t : TypeId) (len : Nat) (parts : List (Nat × SV1)) : R :=
  match P.underlying t with
  | some (.slice el) => (match P.info? el with
    | some inf => (match inf.zero with
      | some z => (match Nat.ble (len * inf.size) 16777216, Nat.beq z.cells.size inf.size, Nat.beq inf.size 0, fillL (fun j => some (j * inf.size, inf.size)) (repl len (z.cells.toList.map toSA)) parts with
        | true, true, false, some cs => .new none ⟨true, rowsCon z.cells.toList inf.size len cs⟩ fun j => .one (.a (.slc j inf.size 0 len len))
        | _, _, _, _ => .bad)
      | none => .bad)
    | none => .bad)
  | _ => .bad

def rdAlloc (t : TypeId) : R :=
  match P.info? t with
  | some i => (match i.zero with
    | some z => .new none ⟨true, .flat (z.cells.toList.map toSA)⟩ fun j => .one (.a (.ptr j 0))
    | none => .bad)
  | none => .bad

def capsOf (S : St) : List Operand → Option (List (Nat × Nat))
  | [] => some []
  | x :: l => (match S.ev x, capsOf S l with | some (.one (.a (.ptr i off))), some r => some ((i, off) :: r) | _, _ => none)

def natOf (S : St) (x : Option Operand) (dflt : Nat) : Option (Nat × Option Int) :=
  match x with
  | none => some (dflt, none)
  | some x => (match S.ev x with | some (.one (.a (.v (.int _ n)))) => some (n.toNat, some n) | _ => none)

def inB (o : Option Int) (b : Nat) : Prop :=
  match o with
  | some n => 0 ≤ n ∧ n ≤ (b : Int)
  | none => True

def cutR (ln : Option Int) (cap l r : Nat) : Nat :=
  match ln with
  | none => r
  | some _ => if cap = l then r else r + l
def cutL (ln : Option Int) (h l : Nat) : Nat :=
  match ln with
  | none => h
  | some _ => h - l

/-- 'x[lo:hi]' of a slice -/
def rdSlice (S : St) (t : TypeId) (x : SA) (lo hi : Option Operand) : R :=
  match P.underlying t, x with
  | some (.slice el), .slc i st r len cap => (match P.info? el, natOf S lo 0, natOf S hi len with
    | some inf, some (l, ln), some (h, hn) => (match Nat.beq st inf.size with
      | true => .val (some (inB hn cap ∧ inB ln h))
          (.one (.a (.slc i st (cutR ln cap l r) (cutL ln h l) (cutL ln cap l))))
      | false => .bad)
    | _, _, _ => .bad)
  | some (.array n el), .ptr i off => (match P.info? el, natOf S lo 0, natOf S hi n with
    | some inf, some (l, ln), some (h, hn) => (match Nat.beq inf.size 1, leads S.m (.ptr i off) with
      | true, true => .val (some (inB hn n ∧ inB ln h))
          (.one (.a (.slc i 1 (cutR ln n l off) (cutL ln h l) (cutL ln n l))))
      | _, _ => .bad)
    | _, _, _ => .bad)
  | _, _ => .bad

def rdLen (m : Mem) (t : TypeId) (x : SV1) : R :=
  match P.underlying t, x with
  | some (.slice _), .a (.slc _ _ _ len _) => .val none (int_ .i64 len)
  | some (.slice _), .a (.v (.slice _ n _)) => .val none (int_ .i64 n)
  | some .string, .a (.v (.string s)) => .val none (int_ .i64 s.size)
  | some (.array n _), _ => .val none (int_ .i64 n)
  | _, _ => .bad

def joinCol (len k r' : Nat) (t : Tail) (c : Nat) : Col → Col → Col
  | .int a g, .int _ g' => .int a fun r => if r < len then g r else if r < len + k then g' (r' + (r - len)) else t.i c r
  | .bool g, .bool g' => .bool fun r => if r < len then g r else if r < len + k then g' (r' + (r - len)) else t.b c r
  | .val g, .val g' => .val fun r => if r < len then g r else if r < len + k then g' (r' + (r - len)) else t.v c r
  | q, _ => q
def joinCols (len k r' : Nat) (t : Tail) : Nat → List Col → List Col → List Col
  | c, q :: qs, p :: ps => joinCol len k r' t c q p :: joinCols len k r' t (c + 1) qs ps
  | _, _, _ => []
/-- what stands in columns of values fills one cell -/
def valsOne : List Col → Prop
  | [] => True
  | .val g :: l => (∀ r, (g r).oneCell' = true) ∧ valsOne l
  | .int _ _ :: l => valsOne l
  | .bool _ :: l => valsOne l
/-- columns alike, and fit for the cells of a zero value -/
def alikeCols : List Col → List Col → List Value → Bool
  | [], [], [] => true
  | .int a _ :: qs, .int b _ :: ps, .int c _ :: zs => kindEq a b && kindEq a c && alikeCols qs ps zs
  | .bool _ :: qs, .bool _ :: ps, .bool _ :: zs => alikeCols qs ps zs
  | .val _ :: qs, .val _ :: ps, _ :: zs => alikeCols qs ps zs
  | _, _, _ => false

/-- whole numbers of one kind, the first n of some cells -/
def flatInts (k : IntKind) : Nat → List SA → Option (List Int)
  | 0, _ => some []
  | n + 1, .v (.int k' x) :: l => (match kindEq k k', flatInts k n l with | true, some r => some (x :: r) | _, _ => none)
  | _, _ => none
/-- a region as rows; cells of whole numbers are rows of one column -/
def viewTab (m : Mem) (j n : Nat) : Option (Nat × List Col) :=
  match m.reg j with
  | some ⟨_, .tab N cols⟩ => some (N, cols)
  | some ⟨_, .flat (.v (.int k x) :: l)⟩ => (match flatInts k n (.v (.int k x) :: l) with | some g => some (n, [.int k fun r => g.getD r 0]) | none => none)
  | _ => none

/-- 'append(x, y...)'. What x had is not known any more but by the slice that comes back. -/
def rdAppend (m : Mem) (t : TypeId) (x y : SA) : R :=
  match P.underlying t, y with
  | some (.slice el), .slc j st' r' k _ => (match P.info? el, viewTab m j (r' + k) with
    | some inf, some (N', cols') => (match inf.zero, Nat.beq st' inf.size, Nat.beq cols'.length st', Nat.beq st' 0, Nat.ble inf.bytes 1024 with
      | some z, true, true, false, true => (match x with
        | .v (.slice none 0 0) => (match alikeCols cols' cols' z.cells.toList with
          | true => .app (r' + k ≤ N' ∧ k ≤ 137438953472) none st' k fun cap t => ⟨true, .tab cap (joinCols 0 k r' t 0 cols' cols')⟩
          | false => .bad)
        | .slc i st r len cap => (match m.reg i, Nat.beq st st', Nat.beq r 0, Nat.beq i j with
          | some ⟨true, .tab N cols⟩, true, true, false => (match alikeCols cols cols' z.cells.toList with
            | true => .app (len ≤ cap ∧ cap ≤ N ∧ cap ≤ 9223372036854775807 ∧ r' + k ≤ N' ∧ len + k ≤ 137438953472 ∧ valsOne cols') (some i) st (len + k) fun cap t => ⟨true, .tab cap (joinCols len k r' t 0 cols cols')⟩
            | false => .bad)
          | _, _, _, _ => .bad)
        | _ => .bad)
      | _, _, _, _, _ => .bad)
    | _, _ => .bad)
  | _, _ => .bad

/-- 'append(x, make(.., n)...)' -/
def rdAppZ (m : Mem) (t u : TypeId) (x : SA) (n : Int) : R :=
  match P.underlying t, P.underlying u, x with
  | some (.slice el), some (.int _), .slc i st r len cap => (match P.info? el, m.reg i with
    | some inf, some ⟨true, .tab N cols⟩ => (match inf.zero, Nat.beq st inf.size, Nat.beq cols.length st, Nat.beq r 0, Nat.beq st 0, Nat.ble inf.bytes 1024 with
      | some z, true, true, true, false, true => (match alikeCols cols (z.cells.toList.map zeroCol) z.cells.toList with
        | true => .app (0 ≤ n ∧ len ≤ cap ∧ cap ≤ N ∧ cap ≤ 9223372036854775807 ∧ len + n.toNat ≤ 137438953472 ∧ valsOne (z.cells.toList.map zeroCol)) (some i) st (len + n.toNat) fun cap t => ⟨true, .tab cap (joinCols len n.toNat 0 t 0 cols (z.cells.toList.map zeroCol))⟩
        | false => .bad)
      | _, _, _, _, _, _ => .bad)
    | _, _ => .bad)
  | _, _, _ => .bad

/-- 'copy(x, y)' into cells that are known, out of rows of numbers that are no fewer -/
def rdCopy (m : Mem) (t : TypeId) (x y : SA) : R :=
  match P.underlying t, x, y with
  | some (.slice el), .slc i st off d _, .slc j st' r' len' _ => (match P.info? el, m.reg i, m.reg j, Nat.beq st 1, Nat.beq st' 1 with
    | some inf, some ⟨true, .flat l⟩, some ⟨_, .tab N' [.int k g]⟩, true, true => (match Nat.beq inf.size 1, Nat.ble (off + d) l.length, Nat.blt 0 d with
      | true, true, true => .wrv (some (d ≤ len' ∧ r' + d ≤ N')) i ⟨true, .flat (l.take off ++ ((List.range d).map fun q => SA.v (.int k (g (r' + q)))) ++ l.drop (off + d))⟩ (int_ .i64 d)
      | _, _, _ => .bad)
    | _, _, _, _, _ => .bad)
  | _, _, _ => .bad

def rdMake (t : TypeId) (l c : Int) : R :=
  match P.underlying t with
  | some (.slice el) => (match P.info? el with
    | some inf => (match inf.zero with
      | some z => (match Nat.beq z.cells.size inf.size, Nat.beq inf.size 0, Nat.ble inf.bytes 1024 with
        | true, false, true => .new (some (0 ≤ l ∧ l ≤ c ∧ c ≤ 137438953472)) ⟨true, .tab c.toNat (z.cells.toList.map zeroCol)⟩ fun j => .one (.a (.slc j inf.size 0 l.toNat c.toNat))
        | _, _, _ => .bad)
      | none => .bad)
    | none => .bad)
  | _ => .bad

def rdOp (S : St) (o : Oper) : R :=
  match o.op with
  | .move x | .assign x => (match S.ev x with | some v => .val none v | none => .bad)
  | .nilCheck x => (match S.ev x with
    | some (.one (.a p)) => (match ptsOb S.m p with | some ob => .val ob (.one (.a p)) | none => .bad)
    | _ => .bad)
  | .fieldAddr t x f => (match S.ev x with | some (.one (.a p)) => rdField P S.m t p f | _ => .bad)
  | .indexAddr t x ix => (match S.ev x, S.ev ix with | some (.one (.a p)), some (.one (.a iv)) => rdIndexAddr P S.m t p ix iv | _, _ => .bad)
  | .load t x => (match S.ev x with | some (.one (.a p)) => rdLoad P S.m t p | _ => .bad)
  | .store t x y => (match S.ev x, S.ev y with | some (.one (.a p)), some (.one v) => rdStore P S.m t p v | _, _ => .bad)
  | .field t x f => (match S.ev x with | some (.one v) => rdPart P t v f | _ => .bad)
  | .index t x ix => (match S.ev x, S.ev ix with | some (.one v), some (.one (.a iv)) => rdIndex P t v ix iv | _, _ => .bad)
  | .extract x i => (match S.ev x with | some (.tup l) => (match l[i]? with | some v => .val none (.one v) | none => .bad) | _ => .bad)
  | .binOp op t x y _ => (match S.ev x, S.ev y with | some (.one xv), some (.one yv) => rdBin P S.m op t y xv yv | _, _ => .bad)
  | .unOp op _ x => (match S.ev x with | some (.one (.a v)) => rdUn op v | _ => .bad)
  | .convert s d x => (match S.ev x with | some (.one v) => (match P.underlying d with | some (.int _) => rdConv P s d v | _ => rdStr P S.m s d v) | _ => .bad)
  | .build t parts => (match evs S parts.toList with | some l => rdBuild P t l | none => .bad)
  | .buildSlice t len parts => (match evs S parts.toList with | some l => rdBuildSlice P t len l | none => .bad)
  | .alloc t => rdAlloc P t
  | .box _ x => (match S.ev x with
    | some (.one v) => (match v.cells.all SA.one with
      | true => .new none ⟨true, .flat v.cells⟩ fun j => .one (.a (.ptr j 0))
      | false => .bad)
    | _ => .bad)
  | .makeFunc (.func f) first caps => (match first.toList, capsOf S caps.toList with | [], some l => .val none (.one (.a (.clo f l))) | [x], some [] => (match S.ev x with | some (.one (.agg [.v (.int .i64 a), .v (.int .i64 b), .slc i st r len cap])) => .val none (.one (.a (.gcl f a b i st r len cap))) | _ => .bad) | _, _ => .bad)
  | .slice t x lo hi none => (match S.ev x with | some (.one (.a v)) => rdSlice P S t v lo hi | _ => .bad)
  | .call { callee := .builtin .len, args, argTypes } => (match args.toList, argTypes.toList with
    | [x], [t] => (match S.ev x with | some (.one v) => rdLen P S.m t v | _ => .bad)
    | _, _ => .bad)
  | .call { callee := .builtin .min, args, .. } => (match args.toList with
    | [x, y] => (match S.ev x, S.ev y with | some (.one (.a (.v (.int k a)))), some (.one (.a (.v (.int _ b)))) => .val none (int_ k (if b < a then b else a)) | _, _ => .bad)
    | _ => .bad)
  | .call { callee := .builtin .max, args, .. } => (match args.toList with
    | [x, y] => (match S.ev x, S.ev y with | some (.one (.a (.v (.int k a)))), some (.one (.a (.v (.int _ b)))) => .val none (int_ k (if a < b then b else a)) | _, _ => .bad)
    | _ => .bad)
  | .call { callee := .builtin .append, args, argTypes } => (match args.toList, argTypes.toList with
    | [x, y], [t, u] => (match S.ev x, S.ev y, Nat.beq t u with | some (.one (.a x)), some (.one (.a y)), true => rdAppend P S.m t x y | some (.one (.a x)), some (.one (.a (.v (.int _ n)))), false => rdAppZ P S.m t u x n | _, _, _ => .bad)
    | _, _ => .bad)
  | .call { callee := .builtin .copy, args, argTypes } => (match args.toList, argTypes.toList with
    | [x, y], [t, _] => (match S.ev x, S.ev y with | some (.one (.a x)), some (.one (.a y)) => rdCopy P S.m t x y | _, _ => .bad)
    | _, _ => .bad)
  | .makeSlice t l c => (match S.ev l, S.ev c with | some (.one (.a (.v (.int _ l)))), some (.one (.a (.v (.int _ c)))) => rdMake P t l c | _, _ => .bad)
  | _ => .bad

end
end Go.Sx

/-
  Part 3: what 'rdOp' says is what the operation does.
-/
namespace Go.Sx

def obp : Option Prop → Prop
  | none => True
  | some p => p

section
variable {P : Program} {e : Env} {w0 : World} {W : Nat → Prop} {m : Mem} {w : World}

theorem run_typeInfo {t : TypeId} {i : TypeInfo} (h : P.info? t = some i) (w : World) : (typeInfo t).run P w = .ok i w := by
  simp [typeInfo, h]
theorem run_sizeOf {t : TypeId} {i : TypeInfo} (h : P.info? t = some i) (w : World) : (sizeOf t).run P w = .ok i.size w := by
  simp [sizeOf, run_typeInfo h]
theorem run_isAgg {t : TypeId} {d : TypeDesc} (h : P.underlying t = some d) (w : World) : (isAgg t).run P w = .ok (isAgg' d) w := by
  simp only [isAgg, Sem.run_bind, run_underlying h, Result.andThen_ok]
  cases d <;> rfl
theorem run_zero {t : TypeId} {i : TypeInfo} {z : Value} (h : P.info? t = some i) (hz : i.zero = some z) (w : World) : (zeroValue t).run P w = .ok z w := by
  simp [zeroValue, run_typeInfo h, hz]

theorem reg_of {i : Nat} {r : Reg} (h : m.reg i = some r) : m[i]? = some (some r) := by
  unfold Mem.reg at h
  split at h
  · rename_i r' hr; cases h; exact hr
  · cases h

theorem Nat.ble_iff {a b : Nat} : Nat.ble a b = true ↔ a ≤ b := by simp
theorem Nat.beq_iff {a b : Nat} : Nat.beq a b = true ↔ a = b := by simp [Nat.beq_eq]

theorem col_sa (q : Col) (r : Nat) (e : Env) : (q.sa r).den e = q.at_ r := by cases q <;> rfl

theorem tab_cell {n : Nat} {cols : List Col} {r c : Nat} {q : Col} (hr : r < n) (hq : cols[c]? = some q) : (Con.tab n cols).cell e (r * cols.length + c) = some (q.at_ r) := by
  have hc : c < cols.length := (List.getElem?_eq_some_iff.1 hq).1
  have h1 : (r * cols.length + c) / cols.length = r := by
    rw [Nat.mul_comm, Nat.mul_add_div (by omega), Nat.div_eq_of_lt hc]; rfl
  have h2 : (r * cols.length + c) % cols.length = c := by
    rw [Nat.mul_comm, Nat.mul_add_mod, Nat.mod_eq_of_lt hc]
  simp only [Con.cell, h1, h2, if_pos hr, hq, Option.map_some]

theorem at_some {i off : Nat} {a : Addr} (h : e i = some a) : at_ e i off = some (a.add off) := by simp [at_, h]

/-- k cells at an address, read -/
theorem cellsAt_ok (h : Rel e w0 W m w) {p : SA} {k : Nat} {ob : Option Prop} {l : List SA} (hc : cellsAt m p k = some (ob, l)) (ho : obp ob) (hk : 0 < k) :
    l.length = k ∧ ∃ A, p.den e = .pointer (some A) ∧ ∀ j x, l[j]? = some x → w.cell? (A.add j) = some (x.den e) := by
  unfold cellsAt at hc
  split at hc
  · rename_i i off
    split at hc
    · rename_i rw l0 hreg
      split at hc
      · rename_i hle
        cases hc
        have hle := Nat.ble_iff.1 hle
        have hR := h.reg _ _ (reg_of hreg)
        have hlen : ((l0.drop off).take k).length = k := by simp; omega
        refine ⟨hlen, ?_⟩
        have h0 : off < l0.length := by omega
        obtain ⟨a, ha, _⟩ := hR.cell off ((l0[off]).den e) (by simp [Con.cell, h0])
        refine ⟨a.add off, by simp [SA.den, at_some ha], fun j x hx => ?_⟩
        have hj : j < k := by rw [← hlen]; exact (List.getElem?_eq_some_iff.1 hx).1
        rw [List.getElem?_take, if_pos hj, List.getElem?_drop] at hx
        obtain ⟨a', ha', hcell, _⟩ := hR.cell (off + j) (x.den e) (by simp [Con.cell, hx])
        rw [ha] at ha'; cases ha'
        rw [add_add]; exact hcell
      · cases hc
    · rename_i rw n q hreg
      cases hc
      have ho : off + k ≤ n := ho
      have hR := h.reg _ _ (reg_of hreg)
      have hcl : ∀ j, j < n → (Con.tab n [q]).cell e j = some (q.at_ j) := fun j hj => by
        have h2 := tab_cell (e := e) (cols := [q]) (c := 0) hj rfl
        simpa using h2
      refine ⟨by simp, ?_⟩
      obtain ⟨a, ha, _⟩ := hR.cell off _ (hcl off (by omega))
      refine ⟨a.add off, by simp [SA.den, at_some ha], fun j x hx => ?_⟩
      rw [List.getElem?_map] at hx
      have hj : j < k := by
        rcases Nat.lt_or_ge j k with h1 | h1
        · exact h1
        · rw [List.getElem?_eq_none (by simpa using h1)] at hx; cases hx
      rw [List.getElem?_range hj] at hx
      cases hx
      obtain ⟨a', ha', hcell, _⟩ := hR.cell (off + j) _ (hcl (off + j) (by omega))
      rw [ha] at ha'; cases ha'
      rw [add_add, col_sa]; exact hcell
    · cases hc
  · rename_i i st r c
    split at hc
    · rename_i rw n cols hreg
      split at hc
      · rename_i hst hle
        cases hc
        have hst := Nat.beq_iff.1 hst
        have hle := Nat.ble_iff.1 hle
        subst hst
        have hR := h.reg _ _ (reg_of hreg)
        have hr : r < n := ho
        have hlen : (((cols.drop c).take k).map fun q => q.sa r).length = k := by simp; omega
        refine ⟨hlen, ?_⟩
        have h0 : c < cols.length := by omega
        obtain ⟨a, ha, _⟩ := hR.cell (r * cols.length + c) _ (tab_cell hr (List.getElem?_eq_getElem h0))
        refine ⟨a.add (r * cols.length + c), by simp [SA.den, at_some ha], fun j x hx => ?_⟩
        have hj : j < k := by rw [← hlen]; exact (List.getElem?_eq_some_iff.1 hx).1
        rw [List.getElem?_map, List.getElem?_take, if_pos hj, List.getElem?_drop] at hx
        cases hq : cols[c + j]? with
        | none => rw [hq] at hx; cases hx
        | some q =>
          rw [hq] at hx
          cases hx
          obtain ⟨a', ha', hcell, _⟩ := hR.cell (r * cols.length + (c + j)) _ (tab_cell hr hq)
          rw [ha] at ha'; cases ha'
          rw [add_add, Nat.add_assoc, col_sa]; exact hcell
      · cases hc
    · cases hc
  · cases hc

theorem rdLoad_ok (h : Rel e w0 W m w) {t : TypeId} {p : SA} {ob : Option Prop} {v : SV} (hr : rdLoad P m t p = .val ob v) (ho : obp ob) : (Instr.loadAt t (p.den e)).run P w = .ok (v.den e) w := by
  unfold rdLoad at hr
  split at hr
  · rename_i d i hd hi
    split at hr
    · rename_i hagg hpos
      split at hr
      · rename_i ob' l hc
        cases hr
        have h0 : 0 < i.size := blt_iff.1 hpos
        obtain ⟨hlen, A, hA, hcell⟩ := cellsAt_ok h hc ho h0
        rw [hA]
        have hl := run_loadCells_list (P := P) (w := w) A (l.map (SA.den e)) (fun j u hu => by
          rw [List.getElem?_map] at hu
          cases hx : l[j]? with
          | none => rw [hx] at hu; cases hu
          | some x => rw [hx] at hu; cases hu; exact hcell j x hx)
        simp only [List.length_map, hlen] at hl
        simp [Instr.loadAt, Instr.sureAddr, loadVar, run_isAgg hd, hagg, run_sizeOf hi, hl, SV.den, SV1.den]
      · cases hr
    · rename_i hagg
      split at hr
      · rename_i ob' x hc
        cases hr
        obtain ⟨hlen, A, hA, hcell⟩ := cellsAt_ok h hc ho (by omega)
        have := hcell 0 x rfl
        rw [hA]
        have hz : A.add 0 = A := by simp [Addr.add]
        rw [hz] at this
        simp [Instr.loadAt, Instr.sureAddr, loadVar, run_isAgg hd, hagg, this, SV.den, SV1.den]
      · cases hr
    · cases hr
  · cases hr

/-! ### A store -/

theorem Thaw.block {a : Addr} {w' : World} (h : Thaw w a) (hb : w'.heap[a.block]? = w.heap[a.block]?) : Thaw w' a := fun c t lo hi hh => h c t lo hi (by rw [← hb]; exact hh)
theorem Thaw.frozen {a : Addr} {v : Value} (h : Thaw w a) (hc : w.cell? a = some v) : w.frozen? a = false := by
  unfold World.cell? at hc
  unfold World.frozen?
  unfold Thaw at h
  split at hc
  · rename_i c t fr hb
    obtain ⟨lo, hi⟩ := fr
    rw [hb]
    have h2 := h c t lo hi hb
    split at hc
    · cases hc
    · have h3 := (Array.getElem?_eq_some_iff.1 hc).1
      show (decide (lo ≤ a.off) && decide (a.off < hi)) = false
      simp; omega
  · cases hc
theorem Thaw.setCell {a : Addr} (h : Thaw w a) (p : Addr) (v : Value) : Thaw (w.setCell p v) a := by
  intro c t lo hi hh
  unfold World.setCell at hh
  rw [Array.getElem?_modify] at hh
  split at hh
  · rename_i heq
    cases hb : w.heap[a.block]? with
    | none => rw [hb] at hh; cases hh
    | some o =>
      rw [hb] at hh
      cases o with
      | cells c0 t0 fr =>
        simp only [Option.map_some, Option.some.injEq, Obj.cells.injEq] at hh
        obtain ⟨h1, h2, h3⟩ := hh
        have h4 := h c0 t0 lo hi (by rw [hb, h3])
        have h5 : c.size = c0.size := by rw [← h1]; split <;> simp
        rw [h5]; exact h4
      | _ => simp at hh
  · exact h c t lo hi hh

theorem RegOK.keep {A : Option Addr} {r : Reg} {w' : World} (h : RegOK e w A r) (hb : ∀ a, A = some a → r.con.some_ → w'.heap[a.block]? = w.heap[a.block]?) : RegOK e w' A r := by
  refine ⟨fun j v hv => ?_, fun es c hm => ?_⟩
  · obtain ⟨a, ha, hcell, hf⟩ := h.cell j v hv
    have hb := hb a ha (Con.some_of_cell hv)
    refine ⟨a, ha, ?_, fun hrw => ?_⟩
    · rw [World.cell?_of_block (w := w) (by rw [add_block]; exact hb)]; exact hcell
    · exact (hf hrw).block (by rw [add_block]; exact hb)
  · intro j hj
    obtain ⟨a, v, ha, hcell, hf⟩ := h.map es c hm j hj
    have hb := hb a ha (by rw [hm]; exact Nat.lt_of_le_of_lt (Nat.zero_le _) hj)
    refine ⟨a, v, ha, ?_, fun hrw => ?_⟩
    · rw [World.cell?_of_block (w := w) (by rw [add_block]; exact hb)]; exact hcell
    · exact (hf hrw).block (by rw [add_block]; exact hb)

theorem add_ne {a : Addr} (hs : a.spot = none) {i j : Nat} (h : i ≠ j) : a.add i ≠ a.add j := by
  intro hh
  have := congrArg Addr.off hh
  unfold Addr.add at this
  by_cases hi : i = 0 <;> by_cases hj : j = 0 <;> simp [hi, hj] at this <;> omega

theorem storeCells_run {A : Addr} (hs : A.spot = none) : ∀ (vs : List Value) (i : Nat) (w : World), (∀ v ∈ vs, v.oneCell' = true) →
    (∀ j, j < vs.length → (∃ u, w.cell? (A.add (i + j)) = some u) ∧ w.frozen? (A.add (i + j)) = false) →
    ∃ w', (storeCells A vs i).run P w = .ok () w' ∧ w'.os = w.os ∧ w'.tape = w.tape ∧ w'.output = w.output ∧ w'.heap.size = w.heap.size ∧
      (∀ b, b ≠ A.block → w'.heap[b]? = w.heap[b]?) ∧ (∀ q, Thaw w q → Thaw w' q) ∧
      (∀ j, w'.cell? (A.add j) = if i ≤ j ∧ j < i + vs.length then vs[j - i]? else w.cell? (A.add j))
  | [], i, w, _, _ => ⟨w, by simp [storeCells], rfl, rfl, rfl, rfl, fun _ _ => rfl, fun _ hq => hq, fun j => by rw [if_neg (by simp)]⟩
  | v :: vs, i, w, h1, hc => by
    obtain ⟨⟨u, hu⟩, hf⟩ := hc 0 (by simp)
    rw [Nat.add_zero] at hu hf
    have hst := run_store P w (A.add i) v .plain (h1 v (by simp))
    rw [hu] at hst
    simp only [hf, Bool.false_eq_true, if_false] at hst
    obtain ⟨w', hr, h2, h3, h4, h5, h6, h7, h8⟩ := storeCells_run hs vs (i + 1) (w.setCell (A.add i) v) (fun x hx => h1 x (by simp [hx])) (fun j hj => by
      obtain ⟨⟨u', hu'⟩, hf'⟩ := hc (j + 1) (by simp; omega)
      rw [show i + (j + 1) = i + 1 + j by omega] at hu' hf'
      refine ⟨⟨u', ?_⟩, by rw [World.frozen?_setCell]; exact hf'⟩
      rw [World.cell?_setCell_other _ _ _ _ (add_ne hs (by omega))]; exact hu')
    refine ⟨w', ?_, h2, h3, h4, by rw [h5]; simp, fun b hb => ?_, fun q hq => h7 q (hq.setCell _ _), fun j => ?_⟩
    · simp only [storeCells, Sem.run_bind, hst, Result.andThen_ok]; exact hr
    · rw [h6 b hb]; exact heap_setCell_other _ _ _ _ (by rw [add_block]; exact hb)
    · rw [h8 j]
      by_cases hj : i = j
      · subst hj
        rw [if_neg (by omega), if_pos ⟨Nat.le_refl _, by simp⟩]
        simp [World.cell?_setCell_same _ _ _ hu]
      · by_cases hin : i + 1 ≤ j ∧ j < i + 1 + vs.length
        · rw [if_pos hin, if_pos ⟨by omega, by simp; omega⟩]
          rw [show j - i = (j - (i + 1)) + 1 by omega]; simp
        · rw [if_neg hin, if_neg (by simp; omega), World.cell?_setCell_other _ _ _ _ (add_ne hs hj)]

theorem spot_of_cell {a : Addr} {j : Nat} {v : Value} (h0 : ∃ u, w.cell? (a.add 0) = some u) : a.spot = none := by
  obtain ⟨u, hu⟩ := h0
  rw [show a.add 0 = a by simp [Addr.add]] at hu
  unfold World.cell? at hu
  split at hu
  · cases hs : a.spot with
    | none => rfl
    | some x => simp [hs] at hu
  · cases hu

theorem RegOK.spot {a : Addr} {r : Reg} (h : RegOK e w (some a) r) {j : Nat} {v : Value} (hv : r.con.cell e j = some v) : a.spot = none := by
  cases hc : r.con with
  | flat l =>
    rw [hc] at hv
    cases l with
    | nil => simp [Con.cell] at hv
    | cons x l =>
      obtain ⟨a', ha, hcell, _⟩ := h.cell 0 (x.den e) (by rw [hc]; rfl)
      cases ha
      exact spot_of_cell (j := 0) (v := v) ⟨_, hcell⟩
  | tab n cols =>
    rw [hc] at hv
    obtain ⟨hn, hcl⟩ := Con.some_of_cell hv
    cases cols with
    | nil => exact absurd rfl hcl
    | cons x l =>
      obtain ⟨a', ha, hcell, _⟩ := h.cell 0 (x.at_ 0) (by rw [hc]; simp [Con.cell, hn])
      cases ha
      exact spot_of_cell (j := 0) (v := v) ⟨_, hcell⟩
  | room n l =>
    rw [hc] at hv
    obtain ⟨a', u, ha, hcell, _⟩ := h.map n l hc 0 (Con.some_of_cell hv)
    cases ha
    exact spot_of_cell (j := 0) (v := u) ⟨_, hcell⟩
  | obj t x I => rw [hc] at hv; cases hv

/-- Region i is written: cells off .. of it; all else is as it was. -/
theorem Rel.write (h : Rel e w0 W m w) {i : Nat} {c c' : Con} (hi : m[i]? = some (some ⟨true, c⟩)) {a : Addr} (ha : e i = some a) {off : Nat} {vs : List Value} (h0 : vs ≠ [])
    (hone : ∀ v ∈ vs, v.oneCell' = true) (hold : ∀ j, j < vs.length → ∃ u, c.cell e (off + j) = some u)
    (hnew : ∀ j v, c'.cell e j = some v → if off ≤ j ∧ j < off + vs.length then vs[j - off]? = some v else c.cell e j = some v) (hmp : ∀ es k, c' ≠ .room es k) (hob : ∀ t x I, c' ≠ .obj t x I := by intro _ _ _ hm; cases hm) :
    ∃ w', (storeCells (a.add off) vs).run P w = .ok () w' ∧ Rel e w0 W (m.set i (some ⟨true, c'⟩)) w' := by
  have hR := h.reg i _ hi
  rw [ha] at hR
  have hlen : 0 < vs.length := List.length_pos_iff.2 h0
  obtain ⟨u0, hu0⟩ := hold 0 hlen
  have hsome : c.some_ := Con.some_of_cell hu0
  have hspot : a.spot = none := hR.spot hu0
  have hspot' : (a.add off).spot = none := by unfold Addr.add; split <;> simp [hspot]
  obtain ⟨w', hrun, h1, h2, h3, h4, h5, h6, h7⟩ := storeCells_run (P := P) hspot' vs 0 w hone (fun j hj => by
    obtain ⟨u, hu⟩ := hold j hj
    obtain ⟨a', ha', hcell, hf⟩ := hR.cell _ _ hu
    cases ha'
    rw [add_add, Nat.zero_add]
    exact ⟨⟨u, hcell⟩, (hf rfl).frozen hcell⟩)
  rw [add_block] at h5
  refine ⟨w', hrun, ⟨⟨h1.trans h.fr.os, h2.trans h.fr.tape, h3.trans h.fr.output, by rw [h4]; exact h.fr.size, fun b hb hw => ?_⟩, ?_, ?_, ?_, ?_, h.ro.set _ (fun _ _ _ hh => by cases hh)⟩⟩
  · have hne : b ≠ a.block := by
      rintro rfl
      rcases h.wr i _ a hi rfl hsome ha with hW | hge
      · exact hw hW
      · omega
    rw [h5 b hne]; exact h.fr.block b hb hw
  · intro k r hk
    by_cases hik : i = k
    · subst hik
      have hlt : i < m.length := (List.getElem?_eq_some_iff.1 hi).1
      rw [List.getElem?_set_self hlt] at hk
      cases hk
      rw [ha]
      refine ⟨fun j v hv => ⟨a, rfl, ?_, fun _ => ?_⟩, fun es k hm => absurd hm (hmp es k)⟩
      · have hn := hnew j v hv
        by_cases hin : off ≤ j ∧ j < off + vs.length
        · rw [if_pos hin] at hn
          have h8 := h7 (j - off)
          rw [add_add, show off + (j - off) = j by omega, if_pos ⟨Nat.zero_le _, by omega⟩, Nat.sub_zero] at h8
          rw [h8]; exact hn
        · rw [if_neg hin] at hn
          obtain ⟨a', ha', hcell, _⟩ := hR.cell _ _ hn
          cases ha'
          -- a cell outside
          have hother : w'.cell? (a.add j) = w.cell? (a.add j) := by
            rcases Nat.lt_or_ge j off with hlt' | hge
            · -- before: as a block's cell
              obtain ⟨ws, hws⟩ : ∃ ws : List Value, ws = vs := ⟨_, rfl⟩
              have : ∀ (vs : List Value) (k : Nat) (w1 w2 : World), (storeCells (a.add off) vs k).run P w1 = .ok () w2 → (∀ v ∈ vs, v.oneCell' = true) → (∀ q, q < vs.length → (∃ u, w1.cell? ((a.add off).add (k + q)) = some u) ∧ w1.frozen? ((a.add off).add (k + q)) = false) → w2.cell? (a.add j) = w1.cell? (a.add j) := by
                intro vs
                induction vs with
                | nil => intro k w1 w2 hr _ _; simp [storeCells] at hr; rw [hr]
                | cons v vs ih =>
                  intro k w1 w2 hr h1 hq
                  obtain ⟨⟨u, hu⟩, hf⟩ := hq 0 (by simp)
                  rw [Nat.add_zero] at hu hf
                  have hst := run_store P w1 ((a.add off).add k) v .plain (h1 v (by simp))
                  rw [hu] at hst
                  simp only [hf, Bool.false_eq_true, if_false] at hst
                  simp only [storeCells, Sem.run_bind, hst, Result.andThen_ok] at hr
                  have := ih (k + 1) _ w2 hr (fun x hx => h1 x (by simp [hx])) (fun q hq' => by
                    obtain ⟨⟨u', hu'⟩, hf'⟩ := hq (q + 1) (by simp; omega)
                    rw [show k + (q + 1) = k + 1 + q by omega] at hu' hf'
                    refine ⟨⟨u', ?_⟩, by rw [World.frozen?_setCell]; exact hf'⟩
                    rw [World.cell?_setCell_other _ _ _ _ (add_ne hspot' (by omega))]; exact hu')
                  rw [this, add_add, World.cell?_setCell_other _ _ _ _ (add_ne hspot (by omega))]
              exact this vs 0 w w' hrun hone (fun q hq => by
                obtain ⟨u, hu⟩ := hold q hq
                obtain ⟨a', ha', hcell, hf⟩ := hR.cell _ _ hu
                cases ha'
                rw [add_add, Nat.zero_add]
                exact ⟨⟨u, hcell⟩, (hf rfl).frozen hcell⟩)
            · have h8 := h7 (j - off)
              rw [add_add, show off + (j - off) = j by omega, if_neg (by omega)] at h8
              exact h8
          rw [hother]; exact hcell
      · refine h6 _ ?_
        have hn := hnew j v hv
        by_cases hin : off ≤ j ∧ j < off + vs.length
        · obtain ⟨u, hu⟩ := hold (j - off) (by omega)
          rw [show off + (j - off) = j by omega] at hu
          obtain ⟨a', ha', _, hf⟩ := hR.cell _ _ hu
          cases ha'; exact hf rfl
        · rw [if_neg hin] at hn
          obtain ⟨a', ha', _, hf⟩ := hR.cell _ _ hn
          cases ha'; exact hf rfl
    · rw [List.getElem?_set_ne hik] at hk
      refine (h.reg k r hk).keep fun b hb hs => h5 b.block ?_
      exact fun hh => h.sep i k _ r a b hik hi hk rfl hsome hs ha hb hh.symm
  · intro k j rk rj ak aj hkj hk hj hrw hsk hsj hak haj
    have get : ∀ (q : Nat) (rq : Reg), (m.set i (some ⟨true, c'⟩))[q]? = some (some rq) → (∃ r' : Reg, m[q]? = some (some r') ∧ (rq.rw = true → r'.rw = true) ∧ (rq.con.some_ → r'.con.some_)) := by
      intro q rq hq
      by_cases hiq : i = q
      · subst hiq
        exact ⟨_, hi, fun _ => rfl, fun _ => hsome⟩
      · rw [List.getElem?_set_ne hiq] at hq
        exact ⟨rq, hq, id, id⟩
    obtain ⟨rk', hk', h9, h10⟩ := get k rk hk
    obtain ⟨rj', hj', _, h11⟩ := get j rj hj
    exact h.sep k j rk' rj' ak aj hkj hk' hj' (h9 hrw) (h10 hsk) (h11 hsj) hak haj
  · intro k rk ak hk hrw hsk hak
    by_cases hik : i = k
    · subst hik
      exact h.wr i _ ak hi rfl hsome hak
    · rw [List.getElem?_set_ne hik] at hk
      exact h.wr k rk ak hk hrw hsk hak
  · obtain ⟨F, hF⟩ := h.obj
    have hset : ∀ {j x I}, IsO (m.set i (some ⟨true, c'⟩)) j x I → j ≠ i ∧ IsO m j x I := fun hj => hj.of_set (fun rw t x I hh => by cases hh; exact hob _ _ _ rfl)
    refine ⟨F, hF.to (fun hj => ⟨(hset hj).2, rfl⟩) (by rw [h4]; exact Nat.le_refl _) (fun hj hb => h5 _ fun hh => hF.off (hset hj).2 hi hsome ha (hh ▸ hb)) (fun {q x I j r b} hq hj hs hb => ?_)⟩
    by_cases hik : i = j
    · subst hik
      exact hF.off (hset hq).2 hi hsome hb
    · rw [List.getElem?_set_ne hik] at hj
      exact hF.off (hset hq).2 hj hs hb

theorem kind_eq {a b : IntKind} (h : kindEq a b = true) : a = b := by
  cases a <;> cases b <;> first | rfl | cases h

theorem col_set {q q' : Col} {r : Nat} {x : SA} (h : Col.set q r x = some q') : ∀ s, q'.at_ s = if s = r then x.den e else q.at_ s := by
  intro s
  unfold Col.set at h
  split at h
  · rename_i k g k' n
    split at h
    · rename_i hk
      cases h
      have := kind_eq hk
      subst this
      simp only [Col.at_, SA.den]; split <;> rfl
    · cases h
  all_goals first
    | (cases h; simp only [Col.at_, SA.den]; done)
    | (cases h; simp only [Col.at_, SA.den]; split <;> rfl)
    | (cases h; done)

theorem setCols_get {r : Nat} : ∀ {qs : List Col} {xs : List SA} {qs' : List Col}, setCols r qs xs = some qs' → qs'.length = qs.length ∧ xs.length = qs.length ∧
    ∀ (j : Nat) (q' : Col), qs'[j]? = some q' → ∃ (q : Col) (x : SA), qs[j]? = some q ∧ xs[j]? = some x ∧ ∀ s, q'.at_ s = if s = r then x.den e else q.at_ s
  | [], [], _, h => by cases h; exact ⟨rfl, rfl, fun j q' hj => by simp at hj⟩
  | q :: qs, x :: xs, qs', h => by
    simp only [setCols] at h
    split at h
    · rename_i q1 qs1 h1 h2
      cases h
      obtain ⟨h3, h4, h5⟩ := setCols_get h2
      refine ⟨by simp [h3], by simp [h4], fun j q' hj => ?_⟩
      cases j with
      | zero =>
        simp at hj
        subst hj
        exact ⟨q, x, rfl, rfl, col_set h1⟩
      | succ j => exact h5 j q' (by simpa using hj)
    · cases h
  | [], _ :: _, _, h => by cases h
  | _ :: _, [], _, h => by cases h

theorem sa_one {x : SA} (h : x.one = true) : (x.den e).oneCell' = true := by
  cases x <;> first | exact h | rfl

theorem cells_den (x : SV1) (h : x.cells.all SA.one = true) : (x.den e).cells = (x.cells.map (SA.den e)).toArray := by
  cases x with
  | a x =>
    have h1 : x.one = true := by simpa [SV1.cells] using h
    have h2 := sa_one (e := e) h1
    simp only [SV1.den, SV1.cells, List.map]
    generalize x.den e = v at *
    cases v <;> first | rfl | cases h2
  | agg l => simp [SV1.den, SV1.cells, Value.cells]

theorem rdStore_ok (h : Rel e w0 W m w) {t : TypeId} {p : SA} {x : SV1} {ob : Option Prop} {j : Nat} {r : Reg} (hr : rdStore P m t p x = .wr ob j r) (ho : obp ob) :
    ∃ w', (Instr.storeAt t (p.den e) (x.den e)).run P w = .ok () w' ∧ Rel e w0 W (m.set j (some r)) w' := by
  unfold rdStore at hr
  split at hr
  · rename_i i hi
    split at hr
    · rename_i ob' j' r' hsz hpos hone hset
      cases hr
      have hsz := Nat.beq_iff.1 hsz
      have hpos := blt_iff.1 hpos
      have hne : x.cells ≠ [] := by intro h0; rw [h0] at hsz; simp at hsz; omega
      have hcd := cells_den (e := e) x hone
      have hones : ∀ v ∈ x.cells.map (SA.den e), v.oneCell' = true := by
        intro v hv
        obtain ⟨y, hy, rfl⟩ := List.mem_map.1 hv
        exact sa_one (List.all_eq_true.1 hone y hy)
      have key : ∃ A w', p.den e = .pointer (some A) ∧ (storeCells A (x.cells.map (SA.den e))).run P w = .ok () w' ∧ Rel e w0 W (m.set j (some r)) w' := by
        unfold setAt at hset
        split at hset
        · rename_i i' off
          split at hset
          · rename_i l hreg
            split at hset
            · rename_i hle
              cases hset
              have hle := Nat.ble_iff.1 hle
              have hlen : 0 < x.cells.length := List.length_pos_iff.2 hne
              have hR := h.reg _ _ (reg_of hreg)
              have h0 : off < l.length := by omega
              obtain ⟨a, ha, _⟩ := hR.cell off ((l[off]).den e) (by simp [Con.cell, h0])
              obtain ⟨w', hrun, hrel⟩ := h.write (P := P) (c' := .flat (l.take off ++ x.cells ++ l.drop (off + x.cells.length))) (reg_of hreg) ha (off := off) (vs := x.cells.map (SA.den e)) (by simpa using hne) hones
                (fun j hj => by
                  simp at hj
                  exact ⟨(l[off + j]'(by omega)).den e, by simp [Con.cell, show off + j < l.length by omega]⟩)
                (fun j v hv => by
                  simp only [List.length_map]
                  simp only [Con.cell, List.append_assoc] at hv ⊢
                  rw [List.getElem?_append] at hv
                  by_cases h1 : j < off
                  · rw [if_pos (by simp; omega)] at hv
                    rw [if_neg (by omega)]
                    rw [List.getElem?_take, if_pos h1] at hv
                    exact hv
                  · rw [if_neg (by simp; omega)] at hv
                    have hto : (l.take off).length = off := by simp; omega
                    rw [hto, List.getElem?_append] at hv
                    by_cases h2 : j - off < x.cells.length
                    · rw [if_pos h2] at hv
                      rw [if_pos (by omega), List.getElem?_map]
                      exact hv
                    · rw [if_neg h2] at hv
                      rw [if_neg (by omega)]
                      rw [List.getElem?_drop, show off + x.cells.length + (j - off - x.cells.length) = j by omega] at hv
                      exact hv)
                (fun es k hm => by cases hm)
              exact ⟨a.add off, w', by simp [SA.den, at_some ha], hrun, hrel⟩
            · cases hset
          · cases hset
        · rename_i i' st rr c
          split at hset
          · rename_i n cols hreg
            split at hset
            · rename_i new hst hle hnew
              cases hset
              have hst := Nat.beq_iff.1 hst
              have hle := Nat.ble_iff.1 hle
              subst hst
              have hrn : rr < n := ho
              have hlen : 0 < x.cells.length := List.length_pos_iff.2 hne
              have hR := h.reg _ _ (reg_of hreg)
              have h0 : c < cols.length := by omega
              obtain ⟨a, ha, _⟩ := hR.cell (rr * cols.length + c) _ (tab_cell hrn (List.getElem?_eq_getElem h0))
              obtain ⟨hn1, hn2, hn3⟩ := setCols_get (e := e) hnew
              have hml : ((cols.drop c).take x.cells.length).length = x.cells.length := by simp; omega
              have hcl : (cols.take c ++ new ++ cols.drop (c + x.cells.length)).length = cols.length := by simp; omega
              obtain ⟨w', hrun, hrel⟩ := h.write (P := P) (c' := .tab n (cols.take c ++ new ++ cols.drop (c + x.cells.length))) (reg_of hreg) ha (off := rr * cols.length + c) (vs := x.cells.map (SA.den e)) (by simpa using hne) hones
                (fun j hj => by
                  simp at hj
                  rw [Nat.add_assoc]
                  exact ⟨_, tab_cell hrn (List.getElem?_eq_getElem (show c + j < cols.length by omega))⟩)
                (fun j v hv => by
                  simp only [List.length_map]
                  simp only [Con.cell, hcl] at hv
                  split at hv
                  · rename_i hlt
                    generalize hR : j / cols.length = R at *
                    generalize hC : j % cols.length = C at *
                    have hjv : j = R * cols.length + C := by rw [← hR, ← hC, Nat.mul_comm]; exact (Nat.div_add_mod j cols.length).symm
                    have hCl : C < cols.length := by rw [← hC]; exact Nat.mod_lt _ (by omega)
                    have hto : (cols.take c).length = c := by simp; omega
                    have hRC : R ≠ rr → ¬ (rr * cols.length + c ≤ j ∧ j < rr * cols.length + c + x.cells.length) := by
                      intro hne ⟨hl1, hl2⟩
                      apply hne
                      rcases Nat.lt_or_ge R rr with hlt' | hge
                      · have := Nat.mul_le_mul_right cols.length (show R + 1 ≤ rr from hlt')
                        rw [Nat.add_mul] at this; omega
                      · rcases Nat.lt_or_ge rr R with hlt' | hge'
                        · have := Nat.mul_le_mul_right cols.length (show rr + 1 ≤ R from hlt')
                          rw [Nat.add_mul] at this; omega
                        · omega
                    by_cases h1 : C < c
                    · rw [List.append_assoc, List.getElem?_append, if_pos (by omega), List.getElem?_take, if_pos h1] at hv
                      rw [if_neg (by
                        by_cases hr : R = rr
                        · subst hr; omega
                        · exact hRC hr)]
                      rw [hjv]
                      cases hq : cols[C]? with
                      | none => rw [hq] at hv; cases hv
                      | some q => rw [hq] at hv; cases hv; exact tab_cell hlt hq
                    · rw [List.append_assoc, List.getElem?_append, if_neg (by omega), hto, List.getElem?_append] at hv
                      by_cases h2 : C - c < x.cells.length
                      · rw [if_pos (by omega)] at hv
                        cases hq : new[C - c]? with
                        | none => rw [hq] at hv; cases hv
                        | some q =>
                          rw [hq] at hv
                          cases hv
                          obtain ⟨q0, y, hq0, hy, hat⟩ := hn3 _ _ hq
                          rw [List.getElem?_take, if_pos h2, List.getElem?_drop, show c + (C - c) = C by omega] at hq0
                          simp only []
                          rw [hat R]
                          by_cases hr : R = rr
                          · subst hr
                            rw [if_pos (by omega), if_pos rfl, List.getElem?_map, show j - (R * cols.length + c) = C - c by omega, hy]; rfl
                          · rw [if_neg (hRC hr), if_neg hr, hjv]
                            exact tab_cell hlt hq0
                      · rw [if_neg (by omega), List.getElem?_drop, show c + x.cells.length + (C - c - new.length) = C by omega] at hv
                        rw [if_neg (by
                          by_cases hr : R = rr
                          · subst hr; omega
                          · exact hRC hr)]
                        rw [hjv]
                        cases hq : cols[C]? with
                        | none => rw [hq] at hv; cases hv
                        | some q => rw [hq] at hv; cases hv; exact tab_cell hlt hq
                  · cases hv)
                (fun es k hm => by cases hm)
              exact ⟨a.add (rr * cols.length + c), w', by simp [SA.den, at_some ha], hrun, hrel⟩
            · cases hset
          · cases hset
        · cases hset
      obtain ⟨A, w', hA, hrun, hrel⟩ := key
      refine ⟨w', ?_, hrel⟩
      rw [hA]
      simp [Instr.storeAt, Instr.sureAddr, storeVar, run_sizeOf hi, hcd, hsz, hrun]
    · cases hr
  · cases hr

theorem rdCopy_ok (h : Rel e w0 W m w) {t u ty : TypeId} {x y : SA} {ob : Option Prop} {i : Nat} {r : Reg} {v : SV} (hr : rdCopy P m t x y = .wrv ob i r v) (ho : obp ob) :
    ∃ w', (Builtin.copy_ #[t, u] ty #[x.den e, y.den e]).run P w = .ok (v.den e) w' ∧ Rel e w0 W (m.set i (some r)) w' := by
  unfold rdCopy at hr
  split at hr
  · rename_i el i' st off d cap j st' r' len' cap' hu
    split at hr
    · rename_i inf l rw N' k g hinf hi hj hst hst'
      split at hr
      · rename_i hsz hle hpos
        cases hr
        have hst := Nat.beq_iff.1 hst
        have hst' := Nat.beq_iff.1 hst'
        have hsz := Nat.beq_iff.1 hsz
        have hle := Nat.ble_iff.1 hle
        have hpos := blt_iff.1 hpos
        subst hst
        subst hst'
        obtain ⟨hd, hN⟩ : d ≤ len' ∧ r' + d ≤ N' := ho
        have hRs := h.reg _ _ (reg_of hj)
        have hRd := h.reg _ _ (reg_of hi)
        have hsrc : ∀ q, q < d → ∃ a, e j = some a ∧ w.cell? (a.add ((r' + q) * 1 + 0)) = some (.int k (g (r' + q))) := fun q hq => by
          obtain ⟨a, ha, hc, _⟩ := hRs.cell ((r' + q) * 1 + 0) (.int k (g (r' + q))) (by
            have := tab_cell (e := e) (cols := [.int k g]) (q := .int k g) (c := 0) (show r' + q < N' by omega) rfl
            exact this)
          exact ⟨a, ha, hc⟩
        obtain ⟨a, ha, _⟩ := hsrc 0 hpos
        have h0 : off < l.length := by omega
        obtain ⟨b, hb, _⟩ := hRd.cell off ((l[off]).den e) (by simp [Con.cell, h0])
        have hl := run_loadCells_list (P := P) (w := w) (a.add (r' * 1)) (((List.range d).map fun q => g (r' + q)).map (Value.int k)) (fun q u hu => by
          rw [List.getElem?_map, List.getElem?_map] at hu
          by_cases hq : q < d
          · rw [List.getElem?_range hq] at hu
            cases hu
            obtain ⟨a', ha', hcell⟩ := hsrc q hq
            rw [ha] at ha'; cases ha'
            rw [add_add, show r' * 1 + q = (r' + q) * 1 + 0 by omega]
            exact hcell
          · rw [List.getElem?_eq_none (by simpa using hq)] at hu; cases hu)
        simp only [List.length_map, List.length_range, Nat.mul_one] at hl
        obtain ⟨w', hrun, hrel⟩ := h.write (P := P) (c' := .flat (l.take off ++ ((List.range d).map fun q => SA.v (.int k (g (r' + q)))) ++ l.drop (off + d))) (reg_of hi) hb (off := off) (vs := ((List.range d).map fun q => g (r' + q)).map (Value.int k)) (by
            intro h9
            have := congrArg List.length h9
            simp at this
            omega) (fun v hv => by
            obtain ⟨y, _, rfl⟩ := List.mem_map.1 hv
            rfl)
          (fun j hj => by
            simp at hj
            exact ⟨(l[off + j]'(by omega)).den e, by simp [Con.cell, show off + j < l.length by omega]⟩)
          (fun j v hv => by
            simp only [List.length_map, List.length_range]
            simp only [Con.cell, List.append_assoc] at hv ⊢
            rw [List.getElem?_append] at hv
            by_cases h1 : j < off
            · rw [if_pos (by simp; omega)] at hv
              rw [if_neg (by omega)]
              rw [List.getElem?_take, if_pos h1] at hv
              exact hv
            · rw [if_neg (by simp; omega)] at hv
              have hto : (l.take off).length = off := by simp; omega
              rw [hto, List.getElem?_append] at hv
              by_cases h2 : j - off < d
              · rw [if_pos (by simp; omega), List.getElem?_map, List.getElem?_range h2] at hv
                rw [if_pos (by omega), List.getElem?_map, List.getElem?_map, List.getElem?_range h2]
                exact hv
              · rw [if_neg (by simp; omega)] at hv
                rw [if_neg (by omega)]
                simp only [List.length_map, List.length_range] at hv
                rw [List.getElem?_drop, show off + d + (j - off - d) = j by omega] at hv
                exact hv)
          (fun es k hm => by cases hm)
        refine ⟨w', ?_, hrel⟩
        have hmin : Nat.min len' d = d := Nat.min_eq_right hd
        have hx : (SA.slc i 1 off d cap).den e = .slice (some (b.add off)) d cap := by simp [SA.den, at_some hb]
        have hy : (SA.slc j 1 r' len' cap').den e = .slice (some (a.add r')) len' cap' := by simp only [SA.den, at_some ha, Nat.mul_one]
        rw [hx, hy]
        rw [List.map_map] at hrun
        simp [Builtin.copy_, run_underlying hu, Builtin.lenOf, Builtin.firstCells, sizeOf, typeInfo, hinf, hsz, hmin, hl, hrun]
        rfl
      · cases hr
    · cases hr
  · cases hr

end
end Go.Sx

/-
  Part 4: operations that make memory.
-/
namespace Go.Sx
open Go.RowKit

section
variable {P : Program} {e e' : Env} {w0 : World} {W : Nat → Prop} {m : Mem} {w : World}

theorem at_congr {n i off : Nat} (h : ∀ i, i < n → e' i = e i) (hi : Nat.blt i n = true) : at_ e' i off = at_ e i off := by
  simp [at_, h i (blt_iff.1 hi)]

theorem SA.congr {n : Nat} (h : ∀ i, i < n → e' i = e i) {x : SA} (hx : x.ok n = true) : x.den e' = x.den e := by
  cases x with
  | ptr i off => simp only [SA.den]; rw [at_congr h hx]
  | rp i st r c => simp only [SA.den]; rw [at_congr h hx]
  | slc i st r len cap => simp only [SA.den]; rw [at_congr h hx]
  | map i => simp only [SA.den]; rw [h i (blt_iff.1 hx)]
  | gcl f a b i st r len cap => simp only [SA.den]; rw [at_congr h hx]
  | clo f caps =>
    simp only [SA.den]
    congr 2
    apply List.map_congr_left
    intro c hc
    have := List.all_eq_true.1 hx c hc
    rw [at_congr h this]
  | _ => rfl

theorem map_congr_sa {n : Nat} (h : ∀ i, i < n → e' i = e i) {l : List SA} (hx : l.all (SA.ok n) = true) : l.map (SA.den e') = l.map (SA.den e) :=
  List.map_congr_left fun x hxl => SA.congr h (List.all_eq_true.1 hx x hxl)

theorem SV1.congr {n : Nat} (h : ∀ i, i < n → e' i = e i) {x : SV1} (hx : x.ok n = true) : x.den e' = x.den e := by
  cases x with
  | a x => exact SA.congr h hx
  | agg l => simp only [SV1.den]; rw [map_congr_sa h hx]

theorem SV.congr {n : Nat} (h : ∀ i, i < n → e' i = e i) {x : SV} (hx : x.ok n = true) : x.den e' = x.den e := by
  cases x with
  | one x => exact SV1.congr h hx
  | tup l =>
    simp only [SV.den]
    congr 2
    exact List.map_congr_left fun x hxl => SV1.congr h (List.all_eq_true.1 hx x hxl)

theorem Con.congr {n : Nat} (h : ∀ i, i < n → e' i = e i) {c : Con} (hx : c.ok n = true) (j : Nat) : c.cell e' j = c.cell e j := by
  cases c with
  | flat l =>
    simp only [Con.cell]
    cases hl : l[j]? with
    | none => rfl
    | some x =>
      have hm : x ∈ l := List.mem_of_getElem? hl
      simp only [Option.map_some]
      rw [SA.congr h (List.all_eq_true.1 hx x hm)]
  | tab n cols => rfl
  | room n l =>
    simp only [Con.cell]
    split
    · cases hl : l[j]? with
      | none => rfl
      | some x =>
        have hm : x ∈ l := List.mem_of_getElem? hl
        simp only [Option.map_some]
        rw [SA.congr h (List.all_eq_true.1 hx x hm)]
    · rfl
  | obj t x I => rfl

theorem Mem.ok_get (h : Mem.ok m = true) {i : Nat} {r : Reg} (hi : m[i]? = some (some r)) : r.con.ok m.length = true := by
  have := List.all_eq_true.1 h (some r) (List.mem_of_getElem? hi)
  simpa using this

/-- A new block. -/
theorem Rel.alloc (h : Rel e w0 W m w) {o : Obj} {r : Reg} (hag : ∀ i, i < m.length → e' i = e i) (hn : e' m.length = some ⟨w.heap.size, 0, none⟩) (hok : Mem.ok m = true)
    (hr : RegOK e' (w.alloc o) (some ⟨w.heap.size, 0, none⟩) r) (hob : ∀ rw t x I, r ≠ ⟨rw, .obj t x I⟩ := by intro _ _ _ _ hm; cases hm) : Rel e' w0 W (m ++ [some r]) (w.alloc o) := by
  have hold : ∀ i r', m[i]? = some (some r') → RegOK e' (w.alloc o) (e' i) r' := by
    intro i r' hi
    have hlt : i < m.length := (List.getElem?_eq_some_iff.1 hi).1
    rw [hag i hlt]
    have h1 := h.reg i r' hi
    have h2 : RegOK e (w.alloc o) (e i) r' := h1.keep fun a ha hs => by
      rw [ha] at h1
      exact Below.heap_alloc _ _ _ (h1.lt hs)
    refine ⟨fun j v hv => ?_, h2.map⟩
    rw [Con.congr hag (Mem.ok_get hok hi)] at hv
    exact h2.cell j v hv
  have hget : ∀ i r', (m ++ [some r])[i]? = some (some r') → (m[i]? = some (some r') ∧ i < m.length) ∨ (i = m.length ∧ r' = r) := by
    intro i r' hi
    rcases Nat.lt_or_ge i m.length with hlt | hge
    · rw [List.getElem?_append_left hlt] at hi
      exact .inl ⟨hi, hlt⟩
    · rw [List.getElem?_append_right hge] at hi
      rcases Nat.eq_zero_or_pos (i - m.length) with h0 | h0
      · rw [h0] at hi; simp at hi; exact .inr ⟨by omega, hi.symm⟩
      · rw [List.getElem?_eq_none (by simp; omega)] at hi; cases hi
  have hbl : ∀ i r' a, m[i]? = some (some r') → i < m.length → r'.con.some_ → e' i = some a → a.block < w.heap.size := by
    intro i r' a hi hlt hs ha
    rw [hag i hlt] at ha
    have h1 := h.reg i r' hi
    rw [ha] at h1
    exact h1.lt hs
  refine ⟨⟨h.fr.os, h.fr.tape, h.fr.output, by have := h.fr.size; simp; omega, fun b hb hw => ?_⟩, ?_, ?_, ?_, ?_, h.ro.push (fun t x I hh => hob _ t x I (Option.some.inj hh)) hag⟩
  · rw [Below.heap_alloc _ _ _ (by have := h.fr.size; omega)]; exact h.fr.block b hb hw
  · intro i r' hi
    rcases hget i r' hi with ⟨hi, _⟩ | ⟨rfl, rfl⟩
    · exact hold i r' hi
    · rw [hn]; exact hr
  · intro i j ri rj a b hij hi hj hrw hsi hsj ha hb
    rcases hget i ri hi with ⟨hi1, hil⟩ | ⟨hi1, hi2⟩ <;> rcases hget j rj hj with ⟨hj1, hjl⟩ | ⟨hj1, hj2⟩
    · rw [hag i hil] at ha
      rw [hag j hjl] at hb
      exact h.sep i j ri rj a b hij hi1 hj1 hrw hsi hsj ha hb
    · have := hbl i ri a hi1 hil hsi ha
      rw [hj1, hn] at hb; cases hb
      exact Nat.ne_of_lt this
    · have := hbl j rj b hj1 hjl hsj hb
      rw [hi1, hn] at ha; cases ha
      exact (Nat.ne_of_lt this).symm
    · exact absurd (hi1.trans hj1.symm) hij
  · intro i ri a hi hrw hs ha
    rcases hget i ri hi with ⟨hi, hil⟩ | ⟨rfl, rfl⟩
    · rw [hag i hil] at ha
      exact h.wr i ri a hi hrw hs ha
    · rw [hn] at ha; cases ha
      exact .inr h.fr.size
  · obtain ⟨F, hF⟩ := h.obj
    have hp : ∀ {j x I}, IsO (m ++ [some r]) j x I → j < m.length ∧ IsO m j x I := fun hj => hj.of_push fun rw t x I hh => hob rw t x I (Option.some.inj hh)
    refine ⟨F, hF.to (fun hj => ⟨(hp hj).2, hag _ (hp hj).1⟩) (by simp) (fun {j x I b} hj hb => Below.heap_alloc _ _ _ (I.lt (hF.ok (hp hj).2) b hb)) (fun {q x I j rj a} hq hj hs ha => ?_)⟩
    rcases hget j rj hj with ⟨hj, hjl⟩ | ⟨hj1, _⟩
    · rw [hag j hjl] at ha
      exact hF.off (hp hq).2 hj hs ha
    · rw [hj1, hn] at ha; cases ha
      exact fun hb => Nat.lt_irrefl _ (I.lt (hF.ok (hp hq).2) _ hb)

theorem toSA_den (v : Value) : (toSA v).den e = v := by
  unfold toSA
  split <;> rfl

theorem cell_new (w : World) (c : Array Value) (t : TypeId) (j : Nat) : (w.alloc (.cells c t)).cell? ((⟨w.heap.size, 0, none⟩ : Addr).add j) = c[j]? := by
  rw [Addr.add_lit, Nat.zero_add]; exact World.cell?_alloc_new w c t j
theorem frozen_new (w : World) (c : Array Value) (t : TypeId) (j : Nat) : Thaw (w.alloc (.cells c t)) ((⟨w.heap.size, 0, none⟩ : Addr).add j) := by
  intro c' t' lo hi hh
  rw [add_block] at hh
  unfold World.alloc at hh
  simp at hh
  obtain ⟨_, _, h1, h2⟩ := hh
  left; rw [← h1, ← h2]

theorem regOK_new {l : List SA} {con : Con} {t : TypeId} (hcon : ∀ j v, con.cell e' j = some v → (l[j]?).map (SA.den e') = some v) (hmp : ∀ es k, con ≠ .room es k) :
    RegOK e' (w.alloc (.cells (l.map (SA.den e')).toArray t)) (some ⟨w.heap.size, 0, none⟩) ⟨true, con⟩ := by
  refine ⟨fun j v hv => ⟨_, rfl, ?_, fun _ => frozen_new _ _ _ _⟩, fun es k hm => absurd hm (hmp es k)⟩
  rw [cell_new]
  have := hcon j v hv
  simpa using this

theorem rdAlloc_ok {t : TypeId} {r : Reg} {f : Nat → SV} {ob : Option Prop} (hr : rdAlloc P t = .new ob r f) :
    ∃ o, (Instr.alloc t true (.tuple #[])).run P w = .ok (.pointer (some ⟨w.heap.size, 0, none⟩)) (w.alloc o) ∧
      (∀ n, f n = .one (.a (.ptr n 0))) ∧ ∀ e', RegOK e' (w.alloc o) (some ⟨w.heap.size, 0, none⟩) r := by
  unfold rdAlloc at hr
  split at hr
  · rename_i i hi
    split at hr
    · rename_i z hz
      cases hr
      refine ⟨.cells z.cells t, ?_, fun _ => rfl, fun e' => ?_⟩
      · simp [Instr.alloc, run_zero hi hz, newVar, newRow]
      · have h1 : z.cells = ((z.cells.toList.map toSA).map (SA.den e')).toArray := by
          rw [List.map_map, show (SA.den e' ∘ toSA) = id from funext fun v => toSA_den v]; simp
        rw [show (Obj.cells z.cells t) = Obj.cells ((z.cells.toList.map toSA).map (SA.den e')).toArray t by rw [← h1]]
        exact regOK_new (fun j v hv => hv) (fun es k hm => by cases hm)
    · cases hr
  · cases hr

/-! ### Parts put into cells -/

theorem foldl_set (off : Nat) : ∀ (vs : List Value) (k : Nat) (cs : List Value), off + k + vs.length ≤ cs.length →
    (vs.zipIdx k).foldl (fun (cs : Array Value) (x : Value × Nat) => cs.setIfInBounds (off + x.2) x.1) cs.toArray = (cs.take (off + k) ++ vs ++ cs.drop (off + k + vs.length)).toArray
  | [], k, cs, h => by simp
  | v :: vs, k, cs, h => by
    simp only [List.length_cons] at h
    simp only [List.zipIdx_cons, List.foldl_cons]
    have h1 : cs.toArray.setIfInBounds (off + k) v = (cs.set (off + k) v).toArray := by simp
    rw [h1, foldl_set off vs (k + 1) (cs.set (off + k) v) (by simp; omega)]
    congr 1
    apply List.ext_getElem?
    intro j
    simp only [List.append_assoc, List.getElem?_append, List.length_take, List.length_set, List.getElem?_take, List.getElem?_set, List.getElem?_drop, List.length_cons]
    rw [show min (off + (k + 1)) cs.length = off + k + 1 by omega, show min (off + k) cs.length = off + k by omega]
    by_cases h2 : j < off + k
    · rw [if_pos (by omega), if_pos (by omega), if_neg (by omega), if_pos (by omega), if_pos h2]
    · by_cases h3 : j = off + k
      · subst h3
        rw [if_pos (by omega), if_pos (by omega), if_pos rfl, if_pos (by omega), if_neg (by omega)]
        simp
      · rw [if_neg (by omega), if_neg h2]
        by_cases h4 : j < off + k + 1 + vs.length
        · rw [if_pos (by omega), if_pos (by omega), show j - (off + k) = (j - (off + k + 1)) + 1 by omega]
          simp
        · rw [if_neg (by omega), if_neg (by omega), if_neg (by omega)]
          congr 1; omega

theorem fill_ok {place : Nat → Option (Nat × Nat)} : ∀ {parts : List (Nat × SV1)} {cs cs' : List SA}, (∀ x ∈ parts, x.2.cells.all SA.one = true) → fillL place cs parts = some cs' →
    Instr.fill place (cs.map (SA.den e)).toArray (parts.map fun x => (x.1, x.2.den e)) = some (cs'.map (SA.den e)).toArray
  | [], cs, cs', _, h => by cases h; rfl
  | (i, v) :: rest, cs, cs', h1, h => by
    simp only [fillL, fLS_eq] at h
    split at h
    · cases h
    · rename_i off size hp
      split at h
      · rename_i hs hl
        have hs := Nat.beq_iff.1 hs
        have hl := Nat.ble_iff.1 hl
        have hone := h1 (i, v) (by simp)
        have hcd := cells_den (e := e) v hone
        have ih := fill_ok (fun x hx => h1 x (by simp [hx])) h
        simp only [List.map_cons, Instr.fill, hp, hcd]
        rw [if_neg (by simp; omega)]
        rw [← ih]
        congr 1
        have := foldl_set off (v.cells.map (SA.den e)) 0 (cs.map (SA.den e)) (by simp; omega)
        rw [← Array.foldl_toList]
        simp only [List.toList_toArray, Array.toList_zipIdx, Nat.add_zero] at this ⊢
        rw [this]
        simp
      · cases h

end
end Go.Sx

/-
  Part 5: aggregates and slices that are built.
-/
namespace Go.Sx
open Go.RowKit

section
variable {P : Program} {e e' : Env} {w0 : World} {W : Nat → Prop} {m : Mem} {w : World}

theorem evs_ok {S : St} {a : Act} (ht : RelT e S a) : ∀ {l : List (Nat × Operand)} {r : List (Nat × SV1)}, evs S l = some r →
    (∀ x ∈ r, x.2.cells.all SA.one = true) ∧ l.map (fun x => (x.1, a.eval x.2)) = r.map fun x => (x.1, x.2.den e)
  | [], _, h => by cases h; exact ⟨fun x hx => by simp at hx, rfl⟩
  | (i, x) :: l, r, h => by
    simp only [evs] at h
    split at h
    · rename_i v r' hv hr
      split at h
      · rename_i hone
        cases h
        obtain ⟨h1, h2⟩ := evs_ok ht hr
        refine ⟨fun y hy => ?_, ?_⟩
        · rcases List.mem_cons.1 hy with rfl | hy
          · exact hone
          · exact h1 y hy
        · have := evOk ht hv
          simp only [List.map_cons, h2, this]; rfl
      · cases h
    · cases h

theorem placesOf_ok : ∀ {fs : List Field} {ps : List (Nat × Nat)}, placesOf P fs = some ps → (fs.mapM fun (f : Field) => (do pure (f.offset, ← sizeOf f.type) : Sem (Nat × Nat))).run P w = .ok ps w
  | [], _, h => by cases h; simp
  | f :: fs, ps, h => by
    simp only [placesOf] at h
    split at h
    · rename_i i r hi hr
      cases h
      have ih := placesOf_ok hr
      rw [List.mapM_cons]
      simp only [Sem.run_bind, run_sizeOf hi, Result.andThen_ok, Sem.run_pure, ih]
    · cases h

theorem rdBuild_ok {t : TypeId} {parts : List (Nat × SV1)} {ob : Option Prop} {v : SV} (hone : ∀ x ∈ parts, x.2.cells.all SA.one = true) (hr : rdBuild P t parts = .val ob v) :
    (Instr.build t (parts.map fun x => (x.1, x.2.den e)).toArray).run P w = .ok (v.den e) w := by
  unfold rdBuild at hr
  split at hr
  · rename_i i fs hi hd
    split at hr
    · rename_i z ps hz hps
      split at hr
      · rename_i cs hf
        cases hr
        have h1 : z.cells = ((z.cells.toList.map toSA).map (SA.den e)).toArray := by
          rw [List.map_map, show (SA.den e ∘ toSA) = id from funext fun v => toSA_den v]; simp
        have h2 := fill_ok (e := e) hone hf
        rw [← h1] at h2
        have h3 := placesOf_ok (P := P) (w := w) hps
        have h4 : (fs.mapM fun (f : Field) => (do pure (f.offset, ← sizeOf f.type) : Sem (Nat × Nat))).run P w = .ok ps.toArray w := by
          rw [Array.mapM_eq_mapM_toList, Sem.run_map, h3]; rfl
        have h5 : (fun (x : Nat) => ps.toArray[x]?) = fun (j : Nat) => ps[j]? := by funext j; simp
        simp only [Instr.build, Sem.run_bind, run_zero hi hz, run_underlying hd, Result.andThen_ok, h4, h5, List.toList_toArray, h2, Sem.run_pure]
        rfl
      · cases hr
    · cases hr
  · rename_i i n el hi hd
    split at hr
    · rename_i z inf hz hinf
      split at hr
      · rename_i cs hf
        cases hr
        have h1 : z.cells = ((z.cells.toList.map toSA).map (SA.den e)).toArray := by
          rw [List.map_map, show (SA.den e ∘ toSA) = id from funext fun v => toSA_den v]; simp
        have h2 := fill_ok (e := e) hone hf
        rw [← h1] at h2
        simp only [Instr.build, Sem.run_bind, run_zero hi hz, run_underlying hd, Result.andThen_ok, run_sizeOf hinf, List.toList_toArray, h2, Sem.run_pure]
        rfl
      · cases hr
    · cases hr
  · cases hr

/-! ### Rows -/

theorem every_get {st : Nat} (hst : 0 < st) : ∀ (n : Nat) (l : List SA) (r : Nat), (every st n l)[r]? = if r < n then l[r * st]? else none
  | 0, l, r => by simp [every]
  | n + 1, [], r => by simp [every]
  | n + 1, x :: l, r => by
    simp only [every]
    cases r with
    | zero => simp
    | succ r =>
      rw [List.getElem?_cons_succ, every_get hst n _ r, List.getElem?_drop]
      by_cases h : r < n
      · rw [if_pos h, if_pos (by omega), show st + r * st = (r + 1) * st by rw [Nat.add_mul]; omega]
      · rw [if_neg h, if_neg (by omega)]

theorem intsOf_get : ∀ {l : List SA} {k : IntKind} {ns : List Int}, intsOf l = some (k, ns) → ∀ (r : Nat) (x : SA), l[r]? = some x → x = .v (.int k (ns.getD r 0))
  | [], _, _, h => by cases h
  | [x], k, ns, h => by
    intro r y hy
    unfold intsOf at h
    split at h
    · rename_i k' n heq
      cases h
      cases heq
      cases r with
      | zero => simp at hy; subst hy; rfl
      | succ r => simp at hy
    · rename_i k' n l' _ heq
      cases heq
      simp [intsOf] at h
    · cases h
  | x :: y :: l, k, ns, h => by
    intro r z hz
    unfold intsOf at h
    split at h
    · rename_i heq; cases heq
    · rename_i k' n l' hne heq
      cases heq
      split at h
      · rename_i k2 r2 h2
        split at h
        · rename_i hk
          cases h
          have hk := kind_eq hk
          subst hk
          cases r with
          | zero => simp at hz; subst hz; rfl
          | succ r =>
            have := intsOf_get h2 r z (by simpa using hz)
            rw [this]; rfl
        · cases h
      · cases h
    · cases h

theorem boolOf_den {x : SA} {b : Bool} (h : boolOf x = some b) : x.den e = .bool b := by
  unfold boolOf at h
  split at h <;> first | (cases h; rfl) | cases h

theorem boolsOf_get : ∀ {l : List SA} {bs : List Bool}, boolsOf l = some bs → ∀ (r : Nat) (x : SA), l[r]? = some x → x.den e = .bool (bs.getD r false)
  | [], _, h => by intro r x hx; simp at hx
  | y :: l, bs, h => by
    intro r x hx
    simp only [boolsOf] at h
    split at h
    · rename_i b r' hb hr
      cases h
      cases r with
      | zero => simp at hx; subst hx; exact boolOf_den hb
      | succ r => exact boolsOf_get hr r x (by simpa using hx)
    · cases h

theorem nilsOf_get : ∀ {l : List SA}, nilsOf l = true → ∀ (r : Nat) (x : SA), l[r]? = some x → x = .v (.slice none 0 0)
  | [], _, r, x, hx => by simp at hx
  | y :: l, h, r, x, hx => by
    unfold nilsOf at h
    split at h
    · rename_i h0; cases h0
    · rename_i l' h0
      cases h0
      cases r with
      | zero => simp at hx; exact hx.symm
      | succ r => exact nilsOf_get h r x (by simpa using hx)
    · cases h
theorem colOf_get {l : List SA} {q : Col} (h : colOf l = some q) (r : Nat) (x : SA) (hx : l[r]? = some x) : q.at_ r = x.den e := by
  unfold colOf at h
  split at h
  · rename_i k ns hi
    cases h
    rw [intsOf_get hi r x hx]; rfl
  · split at h
    · rename_i bs hb
      cases h
      rw [boolsOf_get (e := e) hb r x hx]; rfl
    · split at h
      · rename_i hn
        cases h
        rw [nilsOf_get hn r x hx]; rfl
      · cases h

theorem colsOf_get {st n : Nat} {l : List SA} : ∀ {c : Nat} {cols : List Col}, c ≤ st → colsOf st n l c = some cols → cols.length = c ∧ ∀ j, j < c → ∃ q, cols[j]? = some q ∧ colOf (every st n (l.drop (st - c + j))) = some q
  | 0, cols, _, h => by cases h; exact ⟨rfl, fun j hj => by omega⟩
  | c + 1, cols, hc, h => by
    simp only [colsOf] at h
    split at h
    · rename_i q r hq hr
      cases h
      obtain ⟨h1, h2⟩ := colsOf_get (by omega) hr
      refine ⟨by simp [h1], fun j hj => ?_⟩
      cases j with
      | zero => exact ⟨q, rfl, hq⟩
      | succ j =>
        obtain ⟨q', hq', h3⟩ := h2 j (by omega)
        exact ⟨q', by simpa using hq', by rw [← h3]; congr 3; omega⟩
    · cases h

theorem asRows_cell {st n : Nat} {l : List SA} (hst : 0 < st) (hl : l.length = n * st) {j : Nat} {v : Value} (h : (asRows st n l).cell e j = some v) : (l[j]?).map (SA.den e) = some v := by
  unfold asRows at h
  split at h
  · rename_i cols hc
    obtain ⟨h1, h2⟩ := colsOf_get (Nat.le_refl _) hc
    simp only [Con.cell, h1] at h
    split at h
    · rename_i hlt
      have hm : j % st < st := Nat.mod_lt _ hst
      obtain ⟨q, hq, h3⟩ := h2 (j % st) hm
      rw [hq] at h
      cases h
      have hj : j = j / st * st + j % st := by rw [Nat.mul_comm]; exact (Nat.div_add_mod j st).symm
      have hjl : j < l.length := by
        rw [hl]
        have := Nat.mul_le_mul_right st (show j / st + 1 ≤ n from hlt)
        rw [Nat.add_mul] at this
        omega
      have hg : (every st n (l.drop (st - st + j % st)))[j / st]? = some l[j] := by
        rw [every_get hst, if_pos hlt, List.getElem?_drop, show st - st + j % st + j / st * st = j by omega]
        exact List.getElem?_eq_getElem hjl
      rw [List.getElem?_eq_getElem hjl, Option.map_some]
      exact congrArg some (colOf_get (e := e) h3 _ _ hg).symm
    · cases h
  · exact h

theorem asRows_mp {st n : Nat} {l : List SA} : ∀ es k, asRows st n l ≠ .room es k := by
  intro es k h
  unfold asRows at h
  split at h <;> cases h

theorem rowsCon_cell {z : List Value} {st n : Nat} {l : List SA} (hst : 0 < st) (hl : l.length = n * st) {j : Nat} {v : Value} (h : (rowsCon z st n l).cell e j = some v) : (l[j]?).map (SA.den e) = some v := by
  unfold rowsCon at h
  split at h
  · simp [Con.cell] at h
  · exact asRows_cell hst hl h
theorem rowsCon_mp {z : List Value} {st n : Nat} {l : List SA} : ∀ es k, rowsCon z st n l ≠ .room es k := by
  intro es k h
  unfold rowsCon at h
  split at h
  · cases h
  · exact asRows_mp _ _ h

theorem repl_len (n : Nat) (z : List SA) : (repl n z).length = n * z.length := by
  induction n with
  | zero => simp [repl]
  | succ n ih => simp [repl, ih, Nat.add_mul, Nat.add_comm]

theorem repl_get {n : Nat} {z : List SA} (hz : 0 < z.length) : ∀ j, j < n * z.length → (repl n z)[j]? = z[j % z.length]? := by
  induction n with
  | zero => intro j hj; omega
  | succ n ih =>
    intro j hj
    rw [Nat.add_mul] at hj
    simp only [repl]
    rw [List.getElem?_append]
    by_cases h : j < z.length
    · rw [if_pos h, Nat.mod_eq_of_lt h]
    · rw [if_neg h, ih _ (by omega), Nat.mod_eq_sub_mod (a := j) (by omega)]

theorem fillL_len {place : Nat → Option (Nat × Nat)} : ∀ {parts : List (Nat × SV1)} {cs cs' : List SA}, fillL place cs parts = some cs' → cs'.length = cs.length
  | [], _, _, h => by cases h; rfl
  | (i, v) :: rest, cs, cs', h => by
    simp only [fillL, fLS_eq] at h
    split at h
    · cases h
    · split at h
      · rename_i hl
        have hl := Nat.ble_iff.1 hl
        rw [fillL_len h]; simp; omega
      · cases h

theorem rdBuildSlice_ok {t : TypeId} {len : Nat} {parts : List (Nat × SV1)} {ob : Option Prop} {r : Reg} {f : Nat → SV} (hone : ∀ x ∈ parts, x.2.cells.all SA.one = true) (hr : rdBuildSlice P t len parts = .new ob r f) :
    ∃ (s : Nat) (l : List SA) (el : TypeId), (∀ n, f n = .one (.a (.slc n s 0 len len))) ∧ r.rw = true ∧ (∀ es k, r.con ≠ .room es k) ∧ (∀ (e' : Env) j v, r.con.cell e' j = some v → (l[j]?).map (SA.den e') = some v) ∧
      ∀ e' : Env, (Instr.buildSlice t len (parts.map fun x => (x.1, x.2.den e')).toArray).run P w = .ok (.slice (some ⟨w.heap.size, 0, none⟩) len len) (w.alloc (.cells (l.map (SA.den e')).toArray el)) := by
  unfold rdBuildSlice at hr
  split at hr
  · rename_i el hd
    split at hr
    · rename_i inf hinf
      split at hr
      · rename_i z hz
        split at hr
        · rename_i cs h1 h2 h3 h4
          cases hr
          have h1 := Nat.ble_iff.1 h1
          have h2 := Nat.beq_iff.1 h2
          have h3 : inf.size ≠ 0 := by intro h0; rw [h0] at h3; simp at h3
          have hzl : (z.cells.toList.map toSA).length = inf.size := by simp [h2]
          have hlen : cs.length = len * inf.size := by rw [fillL_len h4, repl_len, hzl]
          refine ⟨inf.size, cs, el, fun _ => rfl, rfl, rowsCon_mp, fun e' j v hv => rowsCon_cell (by omega) hlen hv, fun e' => ?_⟩
          have h5 := fill_ok (e := e') hone h4
          have h6 : (Array.range (len * inf.size)).map (fun i => ((if len * inf.size = 0 then #[] else z.cells : Array Value)[i % (if len * inf.size = 0 then #[] else z.cells : Array Value).size]!)) = ((repl len (z.cells.toList.map toSA)).map (SA.den e')).toArray := by
            apply Array.ext
            · simp [repl_len, h2]
            · intro j hj1 hj2
              simp at hj1
              have hne : len * inf.size ≠ 0 := by omega
              simp only [Array.getElem_map, Array.getElem_range, if_neg hne]
              have hm : j % inf.size < inf.size := Nat.mod_lt _ (by omega)
              have hg := repl_get (n := len) (z := z.cells.toList.map toSA) (by omega) j (by rw [hzl]; exact hj1)
              have hg2 : ((repl len (z.cells.toList.map toSA)).map (SA.den e'))[j]? = some (z.cells[j % inf.size]'(by omega)) := by
                rw [List.getElem?_map, hg, hzl, List.getElem?_map]
                simp [h2, hm, toSA_den]
              rw [h2]
              simp only [List.getElem_toArray]
              rw [List.getElem?_eq_some_iff] at hg2
              obtain ⟨_, hg3⟩ := hg2
              rw [hg3]
              simp [h2, hm]
          have h7 : ¬ len * inf.size > 2 ^ 24 := by omega
          simp only [Instr.buildSlice, Sem.run_bind, run_underlying hd, Result.andThen_ok, run_sizeOf hinf, Sem.run_ite, Sem.run_pure, if_neg h7, run_zero hinf hz, Result.andThen_ite]
          by_cases h0 : len * inf.size = 0
          · simp only [if_pos h0] at h6 ⊢
            rw [h6]
            simp only [List.toList_toArray, h5]
            simp [newRow]
          · simp only [if_neg h0] at h6 ⊢
            rw [h6]
            simp only [List.toList_toArray, h5]
            simp [newRow]
        · cases hr
      · cases hr
    · cases hr
  · cases hr

end
end Go.Sx

/-
  Part 6: operations that only compute.
-/
namespace Go.Sx
open Go.RowKit

section
variable {P : Program} {e e' : Env} {w0 : World} {W : Nat → Prop} {m : Mem} {w : World}

theorem leads_ok (h : Rel e w0 W m w) {p : SA} (hl : leads m p = true) : (∃ A, p.den e = .pointer (some A)) ∨ ∃ f caps, p = .clo f caps := by
  have reg_some : ∀ i, (match m.reg i with | some ⟨_, .flat (_ :: _)⟩ => true | some ⟨true, .obj ..⟩ => true | _ => false) = true → ∃ a, e i = some a := by
    intro i hi
    split at hi
    · rename_i x l hreg
      obtain ⟨a, ha, _⟩ := (h.reg _ _ (reg_of hreg)).cell 0 (x.den e) rfl
      exact ⟨a, ha⟩
    · rename_i t x I hreg
      obtain ⟨F, hF⟩ := h.obj
      exact I.some_ (hF.ok ⟨_, reg_of hreg⟩)
    · cases hi
  unfold leads at hl
  split at hl
  · rename_i i off
    obtain ⟨a, ha⟩ := reg_some i hl
    exact .inl ⟨_, by simp [SA.den, at_some ha]; rfl⟩
  · rename_i i st r c
    obtain ⟨a, ha⟩ := reg_some i hl
    exact .inl ⟨_, by simp [SA.den, at_some ha]; rfl⟩
  · rename_i a
    exact .inl ⟨a, rfl⟩
  · rename_i f caps
    exact .inr ⟨f, caps, rfl⟩
  · cases hl

/-- an address that is not nil -/
def pts (e : Env) (p : SA) : Prop := ∃ A, p.den e = .pointer (some A)

theorem ptsOb_ok (h : Rel e w0 W m w) {p : SA} {ob : Option Prop} (hl : ptsOb m p = some ob) (ho : obp ob) : pts e p ∨ ∃ f caps, p = .clo f caps := by
  unfold ptsOb at hl
  split at hl
  · rename_i hl1
    exact leads_ok h hl1
  · cases p with
    | rp i st r c =>
      simp only at hl
      split at hl
      · rename_i rw n q cols hreg
        cases hl
        have hr : r < n := ho
        obtain ⟨a, ha, _⟩ := (h.reg _ _ (reg_of hreg)).cell (r * (q :: cols).length + 0) _ (tab_cell (c := 0) hr rfl)
        exact .inl ⟨_, by simp [SA.den, at_some ha]; rfl⟩
      · cases hl
    | _ => cases hl

theorem rdField_ok (h : Rel e w0 W m w) {t : TypeId} {p : SA} {f : Nat} {ob : Option Prop} {v : SV} (hr : rdField P m t p f = .val ob v) (ho : obp ob) : (Instr.fieldAt t (p.den e) f).run P w = .ok (v.den e) w := by
  unfold rdField at hr
  split at hr
  · rename_i fs hd
    split at hr
    · rename_i fl hf
      split at hr
      · rename_i i hi
        split at hr
        · rename_i ob' j off hz hob
          cases hr
          have hz : i.size ≠ 0 := by intro h0; rw [h0] at hz; simp at hz
          rcases ptsOb_ok h hob ho with ⟨A, hA⟩ | ⟨_, _, h1⟩
          · simp only [SA.den, at_] at hA
            cases he : e j with
            | none => rw [he] at hA; cases hA
            | some a =>
              simp [Instr.fieldAt, run_underlying hd, hf, SA.den, at_some he, Instr.sureAddr, fieldPlace, run_sizeOf hi, hz, SV.den, SV1.den, add_add]
          · cases h1
        · rename_i ob' j st r c hz hob
          cases hr
          have hz : i.size ≠ 0 := by intro h0; rw [h0] at hz; simp at hz
          rcases ptsOb_ok h hob ho with ⟨A, hA⟩ | ⟨_, _, h1⟩
          · simp only [SA.den, at_] at hA
            cases he : e j with
            | none => rw [he] at hA; cases hA
            | some a =>
              simp [Instr.fieldAt, run_underlying hd, hf, SA.den, at_some he, Instr.sureAddr, fieldPlace, run_sizeOf hi, hz, SV.den, SV1.den, add_add, Nat.add_assoc]
          · cases h1
        · cases hr
      · cases hr
    · cases hr
  · cases hr

theorem elemAt_ok (h : Rel e w0 W m w) {x p : SA} {ob : Option Prop} (hob : ptsOb m x = some ob) (ho : obp ob) {sz j : Nat} (hp : SA.elemAt sz x j = some p) :
    ∃ A, x.den e = .pointer (some A) ∧ p.den e = .pointer (some (A.add (j * sz))) := by
  rcases ptsOb_ok h hob ho with ⟨A, hA⟩ | ⟨f, caps, rfl⟩
  · refine ⟨A, hA, ?_⟩
    cases x with
    | ptr i off =>
      cases hp
      simp only [SA.den, at_] at hA ⊢
      cases he : e i with
      | none => rw [he] at hA; cases hA
      | some a => rw [he] at hA; cases hA; simp [add_add]
    | rp i st r c =>
      cases hp
      simp only [SA.den, at_] at hA ⊢
      cases he : e i with
      | none => rw [he] at hA; cases hA
      | some a => rw [he] at hA; cases hA; simp [add_add, Nat.add_assoc]
    | _ => cases hp
  · cases hp

theorem constPlace_ok {ix : Operand} {n j : Nat} (h : constPlace ix n = some j) : (∃ k, ix = .const (.int k (j : Int))) ∧ j < n := by
  unfold constPlace at h
  split at h
  · split at h
    · rename_i hlt
      cases h
      exact ⟨⟨_, rfl⟩, blt_iff.1 hlt⟩
    · cases h
  · cases h

/-- What is shown of an operation that only computes. -/
def Vals (P : Program) (e : Env) (w : World) (s : Sem Value) : R → Prop
  | .val ob v => obp ob → s.run P w = .ok (v.den e) w
  | .pl ob x n f => obp ob → ∀ j : Nat, j < n → x = (j : Int) → s.run P w = .ok ((f j).den e) w
  | .new .. | .wr .. | .wrv .. | .app .. => False
  | _ => True

theorem places_mem {ob : Option Prop} {x : Int} {n : Nat} {f : Nat → SV} {s : Sem Value} (h : obp ob → ∀ j : Nat, j < n → x = (j : Int) → s.run P w = .ok ((f j).den e) w) : Vals P e w s (.pl ob x n f) := h

theorem rdIndexAddr_ok (h : Rel e w0 W m w) {t : TypeId} {x : SA} {ix : Operand} {iv : SA} (hix : ∀ v, ix = .const v → iv.den e = v) : Vals P e w (Instr.indexAt t (x.den e) (iv.den e)) (rdIndexAddr P m t x ix iv) := by
  unfold rdIndexAddr
  split
  · rename_i el k n hd
    split
    · rename_i inf i st r len cap hinf
      split
      · rename_i rw N cols hreg
        split
        · rename_i h1 h2 h3
          have h1 := Nat.beq_iff.1 h1
          have h2 := Nat.beq_iff.1 h2
          have h3 : st ≠ 0 := by intro h0; rw [h0] at h3; simp at h3
          intro ho
          obtain ⟨h4, h5, h6⟩ := ho
          have hcl : ∃ q, cols[0]? = some q := ⟨_, List.getElem?_eq_getElem (by omega)⟩
          obtain ⟨q, hq⟩ := hcl
          obtain ⟨a, ha, _⟩ := (h.reg _ _ (reg_of hreg)).cell _ _ (tab_cell h6 hq)
          have hi : (0 : Int) ≤ n ∧ n < (len : Int) := ⟨h4, h5⟩
          simp [Instr.indexAt, SA.den, asIntOf, run_underlying hd, at_some ha, hi, run_sizeOf hinf, SV.den, SV1.den, add_add, ← h1, Nat.add_mul]
        · trivial
      · trivial
    · trivial
  · rename_i len el k n hd
    split
    · rename_i inf hinf hlen
      have hlen := Nat.ble_iff.1 hlen
      have arr : ∀ (A : Addr) (j : Nat), x.den e = .pointer (some A) → n = (j : Int) → j < len → (Instr.indexAt t (x.den e) (.int k n)).run P w = .ok (.pointer (some (A.add (j * inf.size)))) w := by
        intro A j hA hn hj
        subst hn
        have h1 : ¬ len ≤ 1 := by omega
        have h2 : ((j : Int) < (len : Int)) := by omega
        simp [Instr.indexAt, hA, asIntOf, run_underlying hd, Instr.sureAddr, h1, hj, run_sizeOf hinf]
      have main : (∃ i off, x = .ptr i off) ∨ (∃ i st r c, x = .rp i st r c) → Vals P e w (Instr.indexAt t (x.den e) (.int k n)) (match tabAt m x inf.size with
        | some (i, N) => .val (some (0 ≤ n ∧ n < len ∧ n.toNat < N)) (.one (.a (.rp i inf.size n.toNat 0)))
        | none => (match ptsOb m x, constPlace ix len with
          | some ob, some j => (match SA.elemAt inf.size x j with | some p => .val ob (.one (.a p)) | none => .bad)
          | some ob, none => R.pl ob n len fun j => match SA.elemAt inf.size x j with | some p => .one (.a p) | none => .tup []
          | none, _ => .bad)) := by
        intro hx
        split
        · rename_i i N htab
          unfold tabAt at htab
          split at htab
          · split at htab
            · rename_i rw N' cols hreg
              split at htab
              · rename_i h1 h2
                cases htab
                have h1 := Nat.beq_iff.1 h1
                have h2 : inf.size ≠ 0 := by intro h0; rw [h0] at h2; simp at h2
                intro ho
                obtain ⟨h4, h5, h6⟩ := ho
                have hcl : ∃ q, cols[0]? = some q := ⟨_, List.getElem?_eq_getElem (by omega)⟩
                obtain ⟨q, hq⟩ := hcl
                obtain ⟨a, ha, _⟩ := (h.reg _ _ (reg_of hreg)).cell _ _ (tab_cell h6 hq)
                rw [arr a n.toNat (by simp [SA.den, at_, ha, Addr.add]) (by omega) (by omega)]
                simp [SV.den, SV1.den, SA.den, at_some ha]
              · cases htab
            · cases htab
          · cases htab
        split
        · rename_i ob j hob hcp
          obtain ⟨⟨k', hk⟩, hj⟩ := constPlace_ok hcp
          have hn : n = (j : Int) := by have := hix _ hk; cases this; rfl
          split
          · rename_i p hp
            intro ho
            obtain ⟨A, hA, hp2⟩ := elemAt_ok h hob ho hp
            rw [arr A j hA hn hj]
            simp only [SV.den, SV1.den, hp2]
          · trivial
        · rename_i ob hob hcp
          refine places_mem fun ho j hj hn => ?_
          have hp : ∃ p, SA.elemAt inf.size x j = some p := by
            rcases hx with ⟨i, off, rfl⟩ | ⟨i, st, r, c, rfl⟩ <;> exact ⟨_, rfl⟩
          obtain ⟨p, hp⟩ := hp
          obtain ⟨A, hA, hp2⟩ := elemAt_ok h hob ho hp
          rw [arr A j hA hn hj, hp]
          simp only [SV.den, SV1.den, hp2]
        · trivial
      split
      · exact main (.inl ⟨_, _, rfl⟩)
      · exact main (.inr ⟨_, _, _, _, rfl⟩)
      · trivial
    · trivial
  · trivial

theorem partOf_ok {t : TypeId} {cs : List SA} {off : Nat} {v : SV1} (h : partOf P t cs off = some v) : (part t (cs.map (SA.den e)).toArray off).run P w = .ok (v.den e) w := by
  unfold partOf at h
  split at h
  · rename_i d i hd hi
    split at h
    · rename_i hagg
      split at h
      · rename_i hle
        cases h
        have hle := Nat.ble_iff.1 hle
        simp [part, run_isAgg hd, hagg, run_sizeOf hi, SV1.den, List.extract_eq_take_drop]
      · cases h
    · rename_i hagg
      split at h
      · rename_i x hx
        cases h
        simp [part, run_isAgg hd, hagg, hx, SV1.den]
      · cases h
  · cases h

theorem rdPart_ok {t : TypeId} {x : SV1} {f : Nat} : Vals P e w (Instr.field t (x.den e) f) (rdPart P t x f) := by
  unfold rdPart
  split
  · rename_i fs cs hd
    split
    · rename_i fl hf
      split
      · rename_i v hv
        intro _
        simp [Instr.field, run_underlying hd, hf, SV1.den, asAgg, partOf_ok hv, SV.den]
      · trivial
    · trivial
  · trivial

theorem rdIndex_ok {t : TypeId} {x : SV1} {ix : Operand} {iv : SA} (hix : ∀ v, ix = .const v → iv.den e = v) : Vals P e w (Instr.index t (x.den e) (iv.den e)) (rdIndex P t x ix iv) := by
  unfold rdIndex
  split
  · rename_i len el cs k n hd
    split
    · rename_i inf hinf
      have arr : ∀ (j : Nat) (v : SV1), n = (j : Int) → j < len → partOf P el cs (j * inf.size) = some v → (Instr.index t (SV1.den e (.agg cs)) (.int k n)).run P w = .ok (v.den e) w := by
        intro j v hn hj hv
        subst hn
        have h2 : ((j : Int) < (len : Int)) := by omega
        have := partOf_ok (e := e) (w := w) hv
        simp [Instr.index, SV1.den, asIntOf, run_underlying hd, hj, run_sizeOf hinf] at this ⊢
        exact this
      split
      · rename_i j hcp
        obtain ⟨⟨k', hk⟩, hj⟩ := constPlace_ok hcp
        have hn : n = (j : Int) := by have := hix _ hk; cases this; rfl
        split
        · rename_i v hv
          intro _
          exact arr j v hn hj hv
        · trivial
      · split
        · rename_i hall
          refine places_mem fun _ j hj hn => ?_
          have := List.all_eq_true.1 hall j (by simpa using hj)
          cases hv : partOf P el cs (j * inf.size) with
          | none => rw [hv] at this; cases this
          | some v => exact arr j v hn hj hv
        · trivial
    · trivial
  · rename_i s k n hd
    intro ho
    obtain ⟨h0, h1⟩ := ho
    have hlt : n.toNat < s.data.size := by have : s.size = s.data.size := rfl; omega
    rw [show SV1.den e (.a (.v (.string s))) = .string s from rfl, show SA.den e (.v (.int k n)) = .int k n from rfl, run_index_string (P := P) w t s k n hd, dif_pos ⟨h0, h1⟩]
    have h2 : s.data.toList.getD n.toNat 0 = s[n.toNat]'hlt := by
      rw [List.getD_eq_getElem?_getD, Array.getElem?_toList, Array.getElem?_eq_getElem hlt]
      rfl
    rw [h2]; rfl
  · trivial

end
end Go.Sx

/-
  Part 7: operators, slices of slices, len.
-/
namespace Go.Sx
open Go.RowKit

section
variable {P : Program} {e e' : Env} {w0 : World} {W : Nat → Prop} {m : Mem} {w : World}

def binRun (op : BinOp) (t : TypeId) (x y : Operand) (u v : Value) : Sem Value := do eqGuard op t x y u v; binOp op t u v

theorem constNot0_ok {y : Operand} (h : constNot0 y = true) {k : IntKind} {b : Int} (hy : ∀ v, y = .const v → .int k b = v) : b ≠ 0 := by
  unfold constNot0 at h
  split at h
  · have := hy _ rfl; cases this; simp; omega
  · have := hy _ rfl; cases this; simp
  · cases h
theorem constNat_ok {y : Operand} (h : constNat y = true) {k : IntKind} {b : Int} (hy : ∀ v, y = .const v → .int k b = v) : 0 ≤ b := by
  unfold constNat at h
  split at h
  · have := hy _ rfl; cases this; simp
  · cases h

theorem rdInt_ok {op : BinOp} {t : TypeId} {x y : Operand} {k : IntKind} {a b : Int} (hy : ∀ v, y = .const v → .int k b = v) : Vals P e w (binRun op t x y (.int k a) (.int k b)) (rdInt op y k a b) := by
  have hb : ∀ {o : Option Prop} {v : SV}, (obp (match constNot0 y with | true => none | false => some (b ≠ 0)) → b ≠ 0) := by
    intro _ _ ho
    cases hc : constNot0 y with
    | true => exact constNot0_ok hc hy
    | false => rw [hc] at ho; exact ho
  have hg : eqGuard op t x y (.int k a) (.int k b) = pure () := eqGuard_at_int ..
  unfold rdInt
  split <;> first
    | (intro ho; simp [binRun, hg, binOp, Op.intArith, int_, SV.den, SV1.den, SA.den]; done)
    | (intro ho
       have hb := hb (o := none) (v := .tup []) ho
       simp [binRun, hg, binOp, Op.intDiv, hb, int_, SV.den, SV1.den, SA.den]; done)
    | (intro ho; simp [binRun, hg, binOp, intBits_and, intBits_or, intBits_xor, intBits_andNot, int_, SV.den, SV1.den, SA.den]; done)
    | (intro ho; simp [binRun, hg, binOp, Op.intCmp, pr_, SV.den, SV1.den, SA.den]; done)
    | (intro ho; simp [binRun, hg, binOp, Op.intCmp, pr_, SV.den, SV1.den, SA.den]; rw [Bool.eq_iff_iff]; simp; done)
    | trivial

theorem eqFs_ok {d : Nat} {R : TypeId → SV1 → SV1 → Option Bool} {xs ys : List SA} : ∀ {l : List Field} {b : Bool}, (∀ f ∈ l, ∀ x y b, R f.type x y = some b → (Op.equalIn d f.type (x.den e) (y.den e)).run P w = .ok b w) → eqFs P R xs ys l = some b →
    (Op.eqFields d (xs.map (SA.den e)).toArray (ys.map (SA.den e)).toArray l).run P w = .ok b w
  | [], b, _, h => by cases h; rfl
  | f :: l, b, hR, h => by
    simp only [eqFs] at h
    split at h
    · rename_i x y hn hx hy
      split at h
      · rename_i a c ha hc
        cases h
        have hn' : f.name ≠ "_" := by simpa using hn
        have ih := eqFs_ok (fun g hg => hR g (List.mem_cons_of_mem _ hg)) hc
        simp only [Op.eqFields, if_pos hn', Sem.run_bind, partOf_ok (e := e) (w := w) hx, partOf_ok (e := e) (w := w) hy, Result.andThen_ok, hR f List.mem_cons_self _ _ _ ha, Sem.run_ite, ih]
        cases a <;> simp
      · cases h
    · cases h

theorem eqIs_ok {d : Nat} {R : TypeId → SV1 → SV1 → Option Bool} {el : TypeId} (hR : ∀ x y b, R el x y = some b → (Op.equalIn d el (x.den e) (y.den e)).run P w = .ok b w) {n : Nat} {xs ys : List SA} : ∀ {l : List Nat} {b : Bool}, eqIs P R el n xs ys l = some b →
    (Op.eqItems d el n (xs.map (SA.den e)).toArray (ys.map (SA.den e)).toArray l).run P w = .ok b w
  | [], b, h => by cases h; rfl
  | i :: l, b, h => by
    simp only [eqIs] at h
    split at h
    · rename_i x y hx hy
      split at h
      · rename_i a c ha hc
        cases h
        have ih := eqIs_ok hR hc
        simp only [Op.eqItems, Sem.run_bind, partOf_ok (e := e) (w := w) hx, partOf_ok (e := e) (w := w) hy, Result.andThen_ok, hR _ _ _ ha, Sem.run_ite, ih]
        cases a <;> simp
      · cases h
    · cases h

theorem eqV_ok : ∀ (d k : Nat) {t : TypeId} {x y : SV1} {b : Bool}, stoodOK P d t = true → eqV P d t x y = some b → (Op.equalIn (d + k) t (x.den e) (y.den e)).run P w = .ok b w
  | 0, k, t, x, y, b, _, h => by cases h
  | d + 1, k, t, x, y, b, hst, h => by
    rw [show d + 1 + k = (d + k) + 1 by omega]
    simp only [eqV] at h
    split at h
    · rename_i hd
      split at h
      · rename_i k1 a k2 b' hk
        cases h
        have hk := kind_eq hk
        subst hk
        simp only [SV1.den, SA.den, run_equalIn_int w _ t _ _ _ _ hd]
        rfl
      · cases h
    · rename_i hd
      split at h
      · rename_i u v ha hb
        cases h
        simp only [SV1.den, boolOf_den ha, boolOf_den hb]
        exact run_equalIn_bool' w _ t _ _ hd
      · cases h
    · rename_i hd
      cases h
      exact run_equalIn_string w _ t _ _ hd
    · rename_i fs xs ys hd
      have hf : P.fieldsOf t = fs := by simp [Program.fieldsOf, hd]
      simp only [stoodOK, hd, Bool.and_eq_true, Bool.not_eq_true', List.all_eq_true] at hst
      simp only [SV1.den]
      rw [run_equalIn_struct w _ t _ _ (by rw [hf]; exact hd) hst.1, hf]
      exact eqFs_ok (fun f hf x y b h => eqV_ok d k (hst.2 f hf) h) h
    · rename_i n el xs ys hd
      split at h
      · rename_i i hi
        simp only [SV1.den]
        rw [run_equalIn_array w _ _ _ hd hi, show P.cellsOf el = i.size by simp [Program.cellsOf, hi]]
        simp only [stoodOK, hd] at hst
        exact eqIs_ok (fun x y b h => eqV_ok d k hst h) h
      · cases h
    · cases h

theorem eqAgg_ok {t : TypeId} {xs ys : List SA} {b : Bool} (ho : EqOK P t) (h : eqV P 8 t (.agg xs) (.agg ys) = some b) {op : BinOp} {x y : Operand} :
    (eqGuard op t x y (.agg (xs.map (SA.den e)).toArray) (.agg (ys.map (SA.den e)).toArray)).run P w = .ok () w ∧ (Op.equal t (.agg (xs.map (SA.den e)).toArray) (.agg (ys.map (SA.den e)).toArray)).run P w = .ok b w := by
  simp only [EqOK, Bool.and_eq_true, Bool.not_eq_true'] at ho
  exact ⟨run_eqGuard_agg w op t x y _ _ ho.1, eqV_ok 8 9992 (e := e) (w := w) ho.2 h⟩

theorem ptr_eql_nil {t el : TypeId} (hd : P.underlying t = some (.pointer el)) (A : Option Addr) : (Op.equal t (.pointer A) (.pointer none)).run P w = .ok A.isNone w := by
  have h1 : ∀ d, (Op.equalIn (d + 1) t (.pointer A) (.pointer none)).run P w = .ok A.isNone w := by
    intro d
    cases A <;> simp [Op.equalIn, run_underlying hd]
  exact h1 9999

theorem nilTest {t el : TypeId} (hd : P.underlying t = some (.pointer el)) {x y : Operand} (A : Option Addr) :
    (binRun .eql t x y (.pointer A) (.pointer none)).run P w = .ok (.bool A.isNone) w ∧ (binRun .neq t x y (.pointer A) (.pointer none)).run P w = .ok (.bool (!A.isNone)) w := by
  have h1 : ∀ op, eqGuard op t x y (.pointer A) (.pointer none) = pure () := fun op => eqGuard_at_pointer ..
  have h2 := ptr_eql_nil (w := w) hd A
  constructor <;> simp [binRun, h1, binOp, h2]

theorem bool_eql {t : TypeId} (hd : P.underlying t = some .bool) {x y : Operand} (a b : Bool) :
    (binRun .eql t x y (.bool a) (.bool b)).run P w = .ok (.bool (a == b)) w ∧ (binRun .neq t x y (.bool a) (.bool b)).run P w = .ok (.bool (!(a == b))) w := by
  have h1 : ∀ op, eqGuard op t x y (.bool a) (.bool b) = pure () := fun op => eqGuard_at_bool ..
  have h2 := run_equal_bool (P := P) (w := w) t a b hd
  constructor <;> simp [binRun, h1, binOp, h2]

theorem shl_ok {k yk : IntKind} {a b : Int} {t : TypeId} {x y : Operand} (hb : 0 ≤ b) : (binRun .shl t x y (.int k a) (.int yk b)).run P w = .ok (.int k (k.wrap (a * 2 ^ min b.toNat k.bits))) w ∧
    (binRun .shr t x y (.int k a) (.int yk b)).run P w = .ok (.int k (a.fdiv (2 ^ min b.toNat k.bits))) w := by
  have h1 : ∀ op, eqGuard op t x y (.int k a) (.int yk b) = pure () := fun op => eqGuard_at_int ..
  have h2 : ¬ b < 0 := by omega
  constructor <;> simp [binRun, h1, binOp, Op.shift, h2]

theorem rdBin_ok (h : Rel e w0 W m w) {op : BinOp} {t : TypeId} {x y : Operand} {xv yv : SV1} (hy : ∀ v, y = .const v → yv.den e = v) : Vals P e w (binRun op t x y (xv.den e) (yv.den e)) (rdBin P m op t y xv yv) := by
  have hsh : ∀ {k yk : IntKind} {a b : Int}, yv = .a (.v (.int yk b)) → obp (match constNat y with | true => none | false => some (0 ≤ b)) → 0 ≤ b := by
    intro k yk a b hyv ho
    cases hc : constNat y with
    | true => exact constNat_ok hc (k := yk) fun v hv => by have := hy v hv; rw [hyv] at this; exact this
    | false => rw [hc] at ho; exact ho
  have lead : ∀ {z : SA}, leads m z = true → (∃ A, z.den e = .pointer (some A)) ∨ ∃ f caps, z = .clo f caps := fun hl => leads_ok h hl
  unfold rdBin
  split
  · intro ho
    exact (shl_ok (hsh (k := .i8) (a := 0) rfl ho)).1
  · intro ho
    exact (shl_ok (hsh (k := .i8) (a := 0) rfl ho)).2
  · rename_i k a k' b _ _
    split
    · rename_i hk
      have hk := kind_eq hk
      subst hk
      exact rdInt_ok fun v hv => hy v hv
    · trivial
  · rename_i z _
    split
    · rename_i el hd
      intro _
      exact (nilTest hd none).1
    · rename_i el _ hd
      split
      · rename_i hl
        intro _
        rcases lead hl with ⟨A, hA⟩ | ⟨_, _, h1⟩
        · simp only [SV1.den, hA]; exact (nilTest hd (some A)).1
        · cases h1
      · rename_i hl
        intro _
        rcases lead hl with ⟨A, hA⟩ | ⟨_, _, h1⟩
        · simp only [SV1.den, hA]; exact (nilTest hd (some A)).1
        · cases h1
      · rename_i hl
        intro _
        rcases lead hl with ⟨A, hA⟩ | ⟨_, _, h1⟩
        · simp only [SV1.den, hA]; exact (nilTest hd (some A)).1
        · cases h1
      · trivial
    · trivial
  · rename_i z _
    split
    · rename_i el hd
      intro _
      exact (nilTest hd none).2
    · rename_i el _ hd
      split
      · rename_i hl
        intro _
        rcases lead hl with ⟨A, hA⟩ | ⟨_, _, h1⟩
        · simp only [SV1.den, hA]; exact (nilTest hd (some A)).2
        · cases h1
      · rename_i hl
        intro _
        rcases lead hl with ⟨A, hA⟩ | ⟨_, _, h1⟩
        · simp only [SV1.den, hA]; exact (nilTest hd (some A)).2
        · cases h1
      · rename_i hl
        intro _
        rcases lead hl with ⟨A, hA⟩ | ⟨_, _, h1⟩
        · simp only [SV1.den, hA]; exact (nilTest hd (some A)).2
        · cases h1
      · trivial
    · trivial
  · rename_i xs ys
    split
    · rename_i b hb
      intro ho
      obtain ⟨h4, h3⟩ := eqAgg_ok (w := w) (e := e) ho hb (op := .eql) (x := x) (y := y)
      simp [binRun, SV1.den, h4, binOp, h3, SV.den, SA.den]
    · trivial
  · rename_i xs ys
    split
    · rename_i b hb
      intro ho
      obtain ⟨h4, h3⟩ := eqAgg_ok (w := w) (e := e) ho hb (op := .neq) (x := x) (y := y)
      simp [binRun, SV1.den, h4, binOp, h3, SV.den, SA.den]
    · trivial
  · rename_i u v _ _
    split
    · rename_i a b _ _
      intro _
      have h1 : eqGuard .eql t x y (.string a) (.string b) = pure () := eqGuard_at_string ..
      simp [binRun, SV1.den, SA.den, h1, binOp, Op.stringOp, SV.den]
    · split
      · rename_i a b ha hb hd
        intro _
        simp only [SV1.den, boolOf_den ha, boolOf_den hb]
        exact (bool_eql hd a b).1
      · trivial
  · rename_i u v _ _
    split
    · rename_i a b _ _
      intro _
      have h1 : eqGuard .neq t x y (.string a) (.string b) = pure () := eqGuard_at_string ..
      simp [binRun, SV1.den, SA.den, h1, binOp, Op.stringOp, SV.den]
    · split
      · rename_i a b ha hb hd
        intro _
        simp only [SV1.den, boolOf_den ha, boolOf_den hb]
        exact (bool_eql hd a b).2
      · trivial
  · trivial

theorem rdUn_ok {op : UnOp} {x : SA} : Vals P e w (Op.unary op (x.den e)) (rdUn op x) := by
  unfold rdUn
  split <;> first
    | (intro _; simp [Op.unary, SA.den, Op.intArith, intBits_xor, int_, SV.den, SV1.den]; done)
    | trivial

theorem rdConv_ok {s d : TypeId} {x : SV1} : Vals P e w (convert s d (x.den e)) (rdConv P s d x) := by
  unfold rdConv
  split
  · rename_i ds k k' n hs hd
    intro _
    simp [convert, run_underlying hs, run_underlying hd, SV1.den, SA.den, Conv.intToInt, int_, SV.den]
  · trivial

theorem natOf_ok {S : St} {a : Act} (ht : RelT e S a) {x : Option Operand} {d n : Nat} {i : Option Int} (h : natOf S x d = some (n, i)) :
    (x = none ∧ n = d ∧ i = none) ∨ ∃ o k v, x = some o ∧ a.eval o = .int k v ∧ n = v.toNat ∧ i = some v := by
  unfold natOf at h
  split at h
  · cases h; exact .inl ⟨rfl, rfl, rfl⟩
  · rename_i o
    split at h
    · rename_i k v hv
      cases h
      exact .inr ⟨o, k, v, rfl, evOk ht hv, rfl, rfl⟩
    · cases h

theorem sliceBounds_ok {S : St} {a : Act} (ht : RelT e S a) {lo hi : Option Operand} {len cap l h : Nat} {ln hn : Option Int} (hl : natOf S lo 0 = some (l, ln)) (hh : natOf S hi len = some (h, hn)) {b : Bool}
    (ho : inB hn cap ∧ inB ln h) :
    (Instr.sliceBounds b len cap (lo.map a.eval) (hi.map a.eval) none).run P w = .ok (l, h, cap) w := by
  have bnd : ∀ (k : IntKind) (v : Int) (y : Nat) (c : BoundsCode), 0 ≤ v → v ≤ (y : Int) → (Instr.sliceBound (.int k v) y c).run P w = .ok v.toNat w := by
    intro k v y c h0 h1
    simp [Instr.sliceBound, asIntOf, h0, h1]
  rcases natOf_ok ht hl with ⟨rfl, rfl, rfl⟩ | ⟨o1, k1, v1, rfl, he1, rfl, rfl⟩ <;> rcases natOf_ok ht hh with ⟨rfl, rfl, rfl⟩ | ⟨o2, k2, v2, rfl, he2, rfl, rfl⟩
  · simp [Instr.sliceBounds]
  · simp [Instr.sliceBounds, he2, bnd _ _ _ _ ho.1.1 ho.1.2]
  · simp [Instr.sliceBounds, he1, bnd _ _ _ _ ho.2.1 ho.2.2]
  · simp [Instr.sliceBounds, he1, he2, bnd _ _ _ _ ho.1.1 ho.1.2, bnd _ _ _ _ ho.2.1 ho.2.2]

theorem cut_eq {S : St} {a : Act} (ht : RelT e S a) {x : Option Operand} {l : Nat} {ln : Option Int} (hl : natOf S x 0 = some (l, ln)) (cap r h : Nat) : cutR ln cap l r = (if cap = l then r else r + l) ∧ cutL ln h l = h - l := by
  rcases natOf_ok ht hl with ⟨_, rfl, rfl⟩ | ⟨_, _, v, _, _, _, rfl⟩
  · refine ⟨?_, rfl⟩
    simp only [cutR]; split <;> rfl
  · exact ⟨rfl, rfl⟩

theorem rdSlice_ok (h : Rel e w0 W m w) {S : St} {a : Act} (ht : RelT e S a) (hm : S.m = m) {t : TypeId} {x : SA} {lo hi : Option Operand} : Vals P e w (Instr.sliceAt t (x.den e) (lo.map a.eval) (hi.map a.eval) none) (rdSlice P S t x lo hi) := by
  unfold rdSlice
  split
  · rename_i el i st r len cap hd
    split
    · rename_i inf l ln hh hn hinf hl hhi
      split
      · rename_i hst
        have hst := Nat.beq_iff.1 hst
        intro ho
        have hb := sliceBounds_ok (P := P) (w := w) (b := true) ht hl hhi ho
        obtain ⟨hc1, hc2⟩ := cut_eq ht hl cap r hh
        rw [hc1, hc2, (cut_eq ht hl cap r cap).2]
        simp only [Instr.sliceAt, Sem.run_bind, run_underlying hd, Result.andThen_ok, Instr.slice, SA.den, hb, run_sizeOf hinf, Sem.run_pure, SV.den, SV1.den]
        congr 2
        by_cases hc : cap = l
        · rw [if_pos hc, if_pos hc]
        · rw [if_neg hc, if_neg hc]
          subst hst
          unfold at_
          cases e i with
          | none => rfl
          | some A => simp [add_add, Nat.add_mul]
      · trivial
    · trivial
  · rename_i n el i off hd
    split
    · rename_i inf l ln hh hn hinf hl hhi
      split
      · rename_i hst hob
        have hst := Nat.beq_iff.1 hst
        intro ho
        have hb := sliceBounds_ok (P := P) (w := w) (b := false) ht hl hhi ho
        obtain ⟨hc1, hc2⟩ := cut_eq ht hl n off hh
        rw [hc1, hc2, (cut_eq ht hl n off n).2]
        subst hm
        rcases leads_ok h hob with ⟨A, hA⟩ | ⟨_, _, h1⟩
        · have hA' := hA
          simp only [SA.den, at_] at hA
          cases hei : e i with
          | none => rw [hei] at hA; cases hA
          | some B =>
            rw [hei] at hA
            cases hA
            simp only [Instr.sliceAt, Sem.run_bind, run_underlying hd, Result.andThen_ok, SA.den, at_, hei, Option.map_some, Instr.sureAddr, hb, run_sizeOf hinf, Sem.run_pure, SV.den, SV1.den, hst]
            congr 2
            by_cases hc : n = l
            · rw [if_pos hc, if_pos hc]; simp
            · rw [if_neg hc, if_neg hc]; simp [add_add]
        · cases h1
      · trivial
    · trivial
  · trivial

theorem rdLen_ok (h : Rel e w0 W m w) {t ty : TypeId} {x : SV1} : Vals P e w (Builtin.len_ #[t] ty #[x.den e]) (rdLen P m t x) := by
  unfold rdLen
  split
  · rename_i hd
    intro _
    simp [Builtin.len_, run_underlying hd, SV1.den, SA.den, int_, SV.den, goInt]
  · rename_i hd
    intro _
    simp [Builtin.len_, run_underlying hd, SV1.den, SA.den, int_, SV.den, goInt]
  · rename_i hd
    intro _
    simp [Builtin.len_, run_underlying hd, SV1.den, SA.den, int_, SV.den, goInt]
  · rename_i hd
    intro _
    simp [Builtin.len_, run_underlying hd, SV1.den, SA.den, int_, SV.den, goInt]
  · trivial

theorem capsOf_ok {S : St} {a : Act} (ht : RelT e S a) : ∀ {l : List Operand} {r : List (Nat × Nat)}, capsOf S l = some r → l.map a.eval = r.map fun c => Value.pointer (at_ e c.1 c.2)
  | [], _, h => by cases h; rfl
  | x :: l, r, h => by
    simp only [capsOf] at h
    split at h
    · rename_i i off r' hv hr
      cases h
      have ih := capsOf_ok ht hr
      have := evOk ht hv
      simp [ih, this, SV.den, SV1.den, SA.den]
    · cases h

end
end Go.Sx

/-
  Part 7b: append and make.
-/
namespace Go.Sx
open Go.RowKit

section
variable {P : Program} {e e' : Env} {w0 : World} {W : Nat → Prop} {m : Mem} {w : World}

/-- n rows from row r on, cell by cell -/
def rowsL (cols : List Col) (r n : Nat) : List Value := (List.range (n * cols.length)).map fun j => match cols[j % cols.length]? with | some q => q.at_ (r + j / cols.length) | none => undef

theorem rowsL_len (cols : List Col) (r n : Nat) : (rowsL cols r n).length = n * cols.length := by simp [rowsL]
theorem rowsL_get {cols : List Col} {r n j : Nat} (hj : j < n * cols.length) : ∃ q, cols[j % cols.length]? = some q ∧ (rowsL cols r n)[j]? = some (q.at_ (r + j / cols.length)) := by
  have hpos : 0 < cols.length := by
    rcases Nat.eq_zero_or_pos cols.length with h | h
    · rw [h] at hj; omega
    · exact h
  have hlt : j % cols.length < cols.length := Nat.mod_lt _ hpos
  refine ⟨cols[j % cols.length], List.getElem?_eq_getElem hlt, ?_⟩
  simp [rowsL, List.getElem?_map, List.getElem?_range hj, List.getElem?_eq_getElem hlt]

theorem rowsL_cell {A : Option Addr} {rw : Bool} {N : Nat} {cols : List Col} (h : RegOK e w A ⟨rw, .tab N cols⟩) {r n : Nat} (hr : r + n ≤ N) {j : Nat} {u : Value} (hu : (rowsL cols r n)[j]? = some u) :
    ∃ a, A = some a ∧ w.cell? ((a.add (r * cols.length)).add j) = some u := by
  have hj : j < n * cols.length := by rw [← rowsL_len cols r n]; exact (List.getElem?_eq_some_iff.1 hu).1
  obtain ⟨q, hq, hg⟩ := rowsL_get (r := r) hj
  rw [hg] at hu
  cases hu
  have hpos : 0 < cols.length := by
    rcases Nat.eq_zero_or_pos cols.length with h | h
    · rw [h] at hj; omega
    · exact h
  have hd : j / cols.length < n := by rw [Nat.div_lt_iff_lt_mul hpos]; exact hj
  have hc := tab_cell (e := e) (n := N) (cols := cols) (r := r + j / cols.length) (by omega) hq
  obtain ⟨a, ha, hcell, _⟩ := h.cell _ _ hc
  refine ⟨a, ha, ?_⟩
  rw [add_add]
  have : r * cols.length + j = (r + j / cols.length) * cols.length + j % cols.length := by
    rw [Nat.add_mul]
    have := Nat.div_add_mod j cols.length
    rw [Nat.mul_comm] at this
    omega
  rw [this]; exact hcell

def AlikeAt (q p : Col) (z : Value) : Prop := (∃ a g g' n, q = .int a g ∧ p = .int a g' ∧ z = .int a n) ∨ (∃ g g' b, q = .bool g ∧ p = .bool g' ∧ z = .bool b) ∨ (∃ g g', q = .val g ∧ p = .val g')

theorem alike_get : ∀ {qs ps : List Col} {zs : List Value}, alikeCols qs ps zs = true → qs.length = zs.length ∧ ps.length = zs.length ∧
    ∀ (c : Nat) (q p : Col) (z : Value), qs[c]? = some q → ps[c]? = some p → zs[c]? = some z → AlikeAt q p z
  | [], ps, zs, h => by
    cases ps <;> cases zs <;> simp [alikeCols] at h
    exact ⟨rfl, rfl, fun c q p z h => by simp at h⟩
  | q :: qs, ps, zs, h => by
    cases ps with
    | nil => cases q <;> simp [alikeCols] at h
    | cons p ps =>
      cases zs with
      | nil => cases q <;> cases p <;> simp [alikeCols] at h
      | cons z zs =>
        have key : alikeCols qs ps zs = true ∧ AlikeAt q p z := by
          cases q <;> cases p
          case val.val => exact ⟨by simpa [alikeCols] using h, .inr (.inr ⟨_, _, rfl, rfl⟩)⟩
          all_goals cases z <;> simp [alikeCols] at h
          · obtain ⟨⟨h1, h2⟩, h3⟩ := h
            have h1 := kind_eq h1
            have h2 := kind_eq h2
            subst h1; subst h2
            exact ⟨h3, .inl ⟨_, _, _, _, rfl, rfl, rfl⟩⟩
          · exact ⟨h, .inr (.inl ⟨_, _, _, rfl, rfl, rfl⟩)⟩
        obtain ⟨i1, i2, i3⟩ := alike_get key.1
        refine ⟨by simp [i1], by simp [i2], fun c q' p' z' hq hp hz => ?_⟩
        cases c with
        | zero => simp at hq hp hz; subst hq; subst hp; subst hz; exact key.2
        | succ c => simp at hq hp hz; exact i3 c q' p' z' hq hp hz

theorem joinCols_get {len k r' : Nat} {t : Tail} : ∀ {qs ps : List Col} {c0 c : Nat}, qs.length = ps.length →
    (joinCols len k r' t c0 qs ps).length = qs.length ∧ (joinCols len k r' t c0 qs ps)[c]? = (match qs[c]?, ps[c]? with | some q, some p => some (joinCol len k r' t (c0 + c) q p) | _, _ => none)
  | [], [], c0, c, _ => by simp [joinCols]
  | q :: qs, p :: ps, c0, 0, h => by
    have := (joinCols_get (len := len) (k := k) (r' := r') (t := t) (qs := qs) (ps := ps) (c0 := c0 + 1) (c := 0) (by simpa using h)).1
    simp [joinCols, this]
  | q :: qs, p :: ps, c0, c + 1, h => by
    obtain ⟨h1, h2⟩ := joinCols_get (len := len) (k := k) (r' := r') (t := t) (qs := qs) (ps := ps) (c0 := c0 + 1) (c := c) (by simpa using h)
    refine ⟨by simp [joinCols, h1], ?_⟩
    simp only [joinCols, List.getElem?_cons_succ, h2, show c0 + (c + 1) = c0 + 1 + c by omega]
  | [], _ :: _, _, _, h | _ :: _, [], _, _, h => by simp at h

def tailOf (f : Nat → Nat → Value) : Tail := ⟨fun c r => match f c r with | .int _ n => n | _ => 0, fun c r => match f c r with | .bool b => b | _ => false, f⟩

/-- what a joined column holds -/
theorem joinCol_at {len k r' : Nat} {f : Nat → Nat → Value} {c : Nat} {q p : Col} {z : Value} (h : AlikeAt q p z) (r : Nat) (hf : len + k ≤ r → AlikeAt q p (f c r)) :
    (joinCol len k r' (tailOf f) c q p).at_ r = if r < len then q.at_ r else if r < len + k then p.at_ (r' + (r - len)) else f c r := by
  rcases h with ⟨a, g, g', n, rfl, rfl, rfl⟩ | ⟨g, g', b, rfl, rfl, rfl⟩ | ⟨g, g', rfl, rfl⟩
  · simp only [joinCol, Col.at_]
    split
    · rfl
    · split
      · rfl
      · rcases hf (by omega) with ⟨a', _, _, n', h1, h2, h3⟩ | ⟨_, _, _, h1, _⟩ | ⟨_, _, h1, _⟩
        · cases h1; simp only [tailOf, h3]
        · cases h1
        · cases h1
  · simp only [joinCol, Col.at_]
    split
    · rfl
    · split
      · rfl
      · rcases hf (by omega) with ⟨_, _, _, _, h1, _⟩ | ⟨_, _, b', h1, h2, h3⟩ | ⟨_, _, h1, _⟩
        · cases h1
        · simp only [tailOf, h3]
        · cases h1
  · simp only [joinCol, Col.at_, tailOf]

/-- the joined rows, cell by cell -/
theorem join_cell {cap len k r' : Nat} {f : Nat → Nat → Value} {qs ps : List Col} {zs : List Value} (hal : alikeCols qs ps zs = true) {j : Nat} {v : Value}
    (hf : ∀ c r q p z, qs[c]? = some q → ps[c]? = some p → zs[c]? = some z → len + k ≤ r → r < cap → AlikeAt q p (f c r))
    (hv : (Con.tab cap (joinCols len k r' (tailOf f) 0 qs ps)).cell e j = some v) :
    ∃ q p, qs[j % qs.length]? = some q ∧ ps[j % qs.length]? = some p ∧ j / qs.length < cap ∧ 0 < qs.length ∧
      v = if j / qs.length < len then q.at_ (j / qs.length) else if j / qs.length < len + k then p.at_ (r' + (j / qs.length - len)) else f (j % qs.length) (j / qs.length) := by
  obtain ⟨h1, h2, h3⟩ := alike_get hal
  have hl : qs.length = ps.length := by omega
  have hjl := (joinCols_get (len := len) (k := k) (r' := r') (t := tailOf f) (c0 := 0) (c := 0) hl).1
  simp only [Con.cell, hjl] at hv
  split at hv
  · rename_i hlt
    have hpos : 0 < qs.length := by
      rcases Nat.eq_zero_or_pos qs.length with h | h
      · rw [(joinCols_get (len := len) (k := k) (r' := r') (t := tailOf f) (c0 := 0) (c := j % qs.length) hl).2] at hv
        rw [List.getElem?_eq_none (by omega)] at hv; cases hv
      · exact h
    have hc : j % qs.length < qs.length := Nat.mod_lt _ hpos
    rw [(joinCols_get (len := len) (k := k) (r' := r') (t := tailOf f) (c0 := 0) (c := j % qs.length) hl).2, List.getElem?_eq_getElem hc, List.getElem?_eq_getElem (show j % qs.length < ps.length by omega)] at hv
    simp only [Option.map_some, Option.some.injEq, Nat.zero_add] at hv
    have hz : zs[j % qs.length]? = some zs[j % qs.length] := List.getElem?_eq_getElem (by omega)
    refine ⟨_, _, List.getElem?_eq_getElem hc, List.getElem?_eq_getElem (by omega), hlt, hpos, ?_⟩
    rw [← hv]
    exact joinCol_at (h3 _ _ _ _ (List.getElem?_eq_getElem hc) (List.getElem?_eq_getElem (by omega)) hz) _ fun hge => hf _ _ _ _ _ (List.getElem?_eq_getElem hc) (List.getElem?_eq_getElem (by omega)) hz hge hlt
  · cases hv

/-! ### Regions that go, or come -/

theorem Rel.same {w' : World} (h : Rel e w0 W m w) (hf : Fr w (fun _ => False) w') : Rel e w0 W m w' := by
  refine ⟨⟨hf.os.trans h.fr.os, hf.tape.trans h.fr.tape, hf.output.trans h.fr.output, Nat.le_trans h.fr.size hf.size, fun b hb hw => ?_⟩, fun i r hi => ?_, h.sep, h.wr, h.obj.imp fun F hF => hF.to (fun hj => ⟨hj, rfl⟩) hf.size (fun {j x I b} hj hb => hf.block b (I.lt (hF.ok hj) b hb) id) (fun hi hj hs ha => hF.off hi hj hs ha), h.ro⟩
  · rw [hf.block b (by have := h.fr.size; omega) (fun h => h)]
    exact h.fr.block b hb hw
  · have hR := h.reg i r hi
    refine hR.keep fun a ha hs => ?_
    rw [ha] at hR
    exact hf.block _ (hR.lt hs) (fun h => h)


theorem Rel.drop (h : Rel e w0 W m w) (i : Nat) : Rel e w0 W (m.set i none) w := by
  have get : ∀ (q : Nat) (r : Reg), (m.set i none)[q]? = some (some r) → m[q]? = some (some r) := by
    intro q r hq
    by_cases hi : i = q
    · subst hi
      by_cases hl : i < m.length
      · rw [List.getElem?_set_self hl] at hq; cases hq
      · rw [List.getElem?_eq_none (by simp; omega)] at hq; cases hq
    · rwa [List.getElem?_set_ne hi] at hq
  exact ⟨h.fr, fun q r hq => h.reg q r (get q r hq), fun q j rq rj a b hqj hq hj => h.sep q j rq rj a b hqj (get q rq hq) (get j rj hj), fun q r a hq => h.wr q r a (get q r hq),
    h.obj.imp fun F hF => hF.to (fun hj => ⟨(hj.of_set (fun _ _ _ _ hh => by cases hh)).2, rfl⟩) (Nat.le_refl _) (fun _ _ => rfl) (fun hi hj hs ha => hF.off (hi.of_set (fun _ _ _ _ hh => by cases hh)).2 (get _ _ hj) hs ha), h.ro.set _ (fun _ _ _ hh => by cases hh)⟩

theorem Mem.ok_drop (h : Mem.ok m = true) (i : Nat) : Mem.ok (m.set i none) = true := by
  unfold Mem.ok at h ⊢
  rw [List.all_eq_true] at h ⊢
  intro x hx
  rcases List.mem_or_eq_of_mem_set hx with hx | rfl
  · have := h x hx
    rw [List.length_set]; exact this
  · rfl

theorem Rel.drew (h : Rel e w0 W m w) : Rel e w0 W m w.drew :=
  h.same ⟨rfl, rfl, rfl, Nat.le_refl _, fun _ _ _ => rfl⟩

theorem Rel.weaken (h : Rel e w0 W m w) {i N : Nat} {c : Con} {cols : List Col} (hi : m[i]? = some (some ⟨true, c⟩)) (hc : ∀ j v, (Con.tab N cols).cell e j = some v → c.cell e j = some v) : Rel e w0 W (m.set i (some ⟨true, .tab N cols⟩)) w := by
  have hil : i < m.length := (List.getElem?_eq_some_iff.1 hi).1
  have hs : (Con.tab N cols).some_ → c.some_ := by
    rintro ⟨hn, hcl⟩
    cases cols with
    | nil => exact absurd rfl hcl
    | cons q l => exact Con.some_of_cell (hc 0 (q.at_ 0) (by simp [Con.cell, hn]))
  have get : ∀ (q : Nat) (r : Reg), (m.set i (some ⟨true, .tab N cols⟩))[q]? = some (some r) → ∃ r' : Reg, m[q]? = some (some r') ∧ (r.rw = true → r'.rw = true) ∧ (r.con.some_ → r'.con.some_) := by
    intro q r hq
    by_cases hiq : i = q
    · subst hiq
      rw [List.getElem?_set_self hil] at hq
      cases hq
      exact ⟨_, hi, fun _ => rfl, hs⟩
    · rw [List.getElem?_set_ne hiq] at hq
      exact ⟨r, hq, id, id⟩
  refine ⟨h.fr, fun q r hq => ?_, fun q j rq rj a b hqj hq hj hrw hsq hsj ha hb => ?_, fun q r a hq hrw hsq ha => ?_,
    h.obj.imp fun F hF => hF.to (fun hj => ⟨(hj.of_set (fun _ _ _ _ hh => by cases hh)).2, rfl⟩) (Nat.le_refl _) (fun _ _ => rfl) (fun hi hj hs ha => by
      obtain ⟨r', h1, _, h3⟩ := get _ _ hj
      exact hF.off (hi.of_set (fun _ _ _ _ hh => by cases hh)).2 h1 (h3 hs) ha), h.ro.set _ (fun _ _ _ hh => by cases hh)⟩
  · by_cases hiq : i = q
    · subst hiq
      rw [List.getElem?_set_self hil] at hq
      cases hq
      have hR := h.reg i _ hi
      exact ⟨fun j v hv => hR.cell j v (hc j v hv), fun es k hm => by cases hm⟩
    · rw [List.getElem?_set_ne hiq] at hq
      exact h.reg q r hq
  · obtain ⟨rq', h1, h2, h3⟩ := get q rq hq
    obtain ⟨rj', h4, _, h5⟩ := get j rj hj
    exact h.sep q j rq' rj' a b hqj h1 h4 (h2 hrw) (h3 hsq) (h5 hsj) ha hb
  · obtain ⟨rq', h1, h2, h3⟩ := get q r hq
    exact h.wr q rq' a h1 (h2 hrw) (h3 hsq) ha

/-- A region comes whose block no other region has. -/
theorem Rel.push (h : Rel e w0 W m w) (hag : ∀ i, i < m.length → e' i = e i) (hok : Mem.ok m = true) {A : Option Addr} (hn : e' m.length = A) {r : Reg} (hr : RegOK e' w A r)
    (hsep : r.con.some_ → ∀ (j : Nat) (rj : Reg) (a b : Addr), m[j]? = some (some rj) → rj.con.some_ → A = some a → e j = some b → a.block ≠ b.block) (hwr : r.con.some_ → ∀ a, A = some a → W a.block ∨ w0.heap.size ≤ a.block)
    (hobj : ∃ F, Objs e w0 W m w F ∧ ∀ {j x I a}, IsO m j x I → r.con.some_ → A = some a → ¬ F j a.block) (hob : ∀ rw t x I, r ≠ ⟨rw, .obj t x I⟩ := by intro _ _ _ _ hm; cases hm) : Rel e' w0 W (m ++ [some r]) w := by
  have hget : ∀ i r', (m ++ [some r])[i]? = some (some r') → (m[i]? = some (some r') ∧ i < m.length) ∨ (i = m.length ∧ r' = r) := by
    intro i r' hi
    rcases Nat.lt_or_ge i m.length with hlt | hge
    · rw [List.getElem?_append_left hlt] at hi
      exact .inl ⟨hi, hlt⟩
    · rw [List.getElem?_append_right hge] at hi
      rcases Nat.eq_zero_or_pos (i - m.length) with h0 | h0
      · rw [h0] at hi; simp at hi; exact .inr ⟨by omega, hi.symm⟩
      · rw [List.getElem?_eq_none (by simp; omega)] at hi; cases hi
  refine ⟨h.fr, ?_, ?_, ?_, ?_, h.ro.push (fun t x I hh => hob _ t x I (Option.some.inj hh)) hag⟩
  · intro i r' hi
    rcases hget i r' hi with ⟨hi, hlt⟩ | ⟨rfl, rfl⟩
    · rw [hag i hlt]
      have h2 := h.reg i r' hi
      refine ⟨fun j v hv => ?_, h2.map⟩
      rw [Con.congr hag (Mem.ok_get hok hi)] at hv
      exact h2.cell j v hv
    · rw [hn]; exact hr
  · intro i j ri rj a b hij hi hj hrw hsi hsj ha hb
    rcases hget i ri hi with ⟨hi1, hil⟩ | ⟨hi1, hi2⟩ <;> rcases hget j rj hj with ⟨hj1, hjl⟩ | ⟨hj1, hj2⟩
    · rw [hag i hil] at ha
      rw [hag j hjl] at hb
      exact h.sep i j ri rj a b hij hi1 hj1 hrw hsi hsj ha hb
    · subst hj2
      rw [hj1, hn] at hb
      rw [hag i hil] at ha
      exact (hsep hsj i ri b a hi1 hsi hb ha).symm
    · subst hi2
      rw [hi1, hn] at ha
      rw [hag j hjl] at hb
      exact hsep hsi j rj a b hj1 hsj ha hb
    · exact absurd (hi1.trans hj1.symm) hij
  · intro i ri a hi hrw hs ha
    rcases hget i ri hi with ⟨hi, hil⟩ | ⟨rfl, rfl⟩
    · rw [hag i hil] at ha
      exact h.wr i ri a hi hrw hs ha
    · rw [hn] at ha
      exact hwr hs a ha
  · obtain ⟨F, hF, hnew⟩ := hobj
    have hp : ∀ {j x I}, IsO (m ++ [some r]) j x I → j < m.length ∧ IsO m j x I := fun hj => hj.of_push fun rw t x I hh => hob rw t x I (Option.some.inj hh)
    refine ⟨F, hF.to (fun hj => ⟨(hp hj).2, hag _ (hp hj).1⟩) (Nat.le_refl _) (fun _ _ => rfl) (fun {q x I j rj a} hq hj hs ha => ?_)⟩
    rcases hget j rj hj with ⟨hj, hjl⟩ | ⟨hj1, hj2⟩
    · rw [hag j hjl] at ha
      exact hF.off (hp hq).2 hj hs ha
    · subst hj2
      rw [hj1, hn] at ha
      exact hnew (hp hq).2 hs ha

/-- a region written anew comes under a new name -/
theorem Objs.renamed {i : Nat} {con : Con} (h : ∃ F, Objs e w0 W (m.set i (some ⟨true, con⟩)) w F) (hil : i < m.length) (hob : ∀ t x I, con ≠ .obj t x I) {A : Option Addr} (hA : e i = A) :
    ∃ F, Objs e w0 W (m.set i none) w F ∧ ∀ {j x I a}, IsO (m.set i none) j x I → con.some_ → A = some a → ¬ F j a.block := by
  obtain ⟨F, hF⟩ := h
  have hsub : ∀ {j x I}, IsO (m.set i none) j x I → IsO (m.set i (some ⟨true, con⟩)) j x I := fun hj => by
    obtain ⟨h1, t, h2⟩ := hj.of_set (fun _ _ _ _ hh => by cases hh)
    exact ⟨t, by rw [List.getElem?_set_ne (Ne.symm h1)]; exact h2⟩
  refine ⟨F, hF.to (fun hj => ⟨hsub hj, rfl⟩) (Nat.le_refl _) (fun _ _ => rfl) (fun {q x I j r a} hq hj hs ha => ?_), fun hj hs ha => hF.off (hsub hj) (List.getElem?_set_self hil) hs (hA.trans ha)⟩
  by_cases hij : i = j
  · subst hij
    rw [List.getElem?_set_self hil] at hj; cases hj
  · rw [List.getElem?_set_ne hij] at hj
    exact hF.off (hsub hq) (by rw [List.getElem?_set_ne hij]; exact hj) hs ha

/-! ### append -/

def goneR : Option Nat → Mem → Mem
  | none, m => m
  | some i, m => m.set i none

theorem run_append_zero {t el : TypeId} {i : TypeInfo} (ht : P.underlying t = some (.slice el)) (hi : P.info? el = some i) {A B : Option Addr} {n c c' : Nat} (hn : n ≤ c) (ty : TypeId) (w : World) :
    (Builtin.append_ #[t, t] ty #[.slice A n c, .slice B 0 c']).run P w = .ok (.slice A n c) w := by
  have h1 : (Builtin.firstCells i.size 0 (.slice B 0 c')).run P w = .ok #[] w := by
    cases B with
    | none => simp [Builtin.firstCells]
    | some b => exact run_firstCells_some (P := P) w i.size 0 b 0 c' [] (by simp) (fun j v h => by simp at h)
  cases A <;> simp [Builtin.append_, run_underlying ht, sizeOf, typeInfo, hi, Builtin.lenOf, hn, h1, storeCells]

theorem run_append_in {t el : TypeId} {i : TypeInfo} (ht : P.underlying t = some (.slice el)) (hi : P.info? el = some i) {a b : Addr} {n c k c' : Nat} {news : List Value} (hl : news.length = k * i.size)
    (hnews : ∀ j u, news[j]? = some u → w.cell? (b.add j) = some u) (hroom : n + k ≤ c) {w' : World} (hst : (storeCells (a.add (n * i.size)) news).run P w = .ok () w') (ty : TypeId) :
    (Builtin.append_ #[t, t] ty #[.slice (some a) n c, .slice (some b) k c']).run P w = .ok (.slice (some a) (n + k) c) w' := by
  have hf := run_firstCells_some (P := P) w i.size k b k c' news hl hnews
  simp [Builtin.append_, run_underlying ht, sizeOf, typeInfo, hi, Builtin.lenOf, hroom, hf, hst]

/-- the new block's cells, of a joined table -/
theorem grown_cells {qs ps : List Col} {zs : Array Value} (hal : alikeCols qs ps zs.toList = true) {len k r' cap : Nat} (hcap : len + k ≤ cap) {j : Nat} {v : Value}
    (hv : (Con.tab cap (joinCols len k r' (tailOf fun c _ => zs[c]!) 0 qs ps)).cell e j = some v) :
    ((rowsL qs 0 len).toArray ++ (rowsL ps r' k).toArray ++ Builtin.zeroCells zs (cap - (len + k)))[j]? = some v := by
  obtain ⟨hq, hp, hz⟩ := alike_get hal
  obtain ⟨q, p, h1, h2, h3, hpos, h4⟩ := join_cell hal (fun c r q p z hq hp hz' _ _ => by
    have : zs[c]! = z := by
      rw [Array.getElem?_toList] at hz'
      simp [getElem!_def, hz']
    rw [this]; exact hz c q p z hq hp hz') hv
  have hps : ps.length = qs.length := by omega
  have hjd := Nat.div_add_mod j qs.length
  rw [Nat.mul_comm] at hjd
  have hjm : j % qs.length < qs.length := Nat.mod_lt _ hpos
  have key : ∀ n, j / qs.length < n ↔ j < n * qs.length := fun n => Nat.div_lt_iff_lt_mul hpos
  have hs1 : (rowsL qs 0 len).toArray.size = len * qs.length := by simp [rowsL_len]
  have hs2 : (rowsL ps r' k).toArray.size = k * qs.length := by simp [rowsL_len, hps]
  rw [h4]
  rw [Array.getElem?_append, Array.size_append, hs1, hs2, Array.getElem?_append, hs1]
  by_cases ha : j / qs.length < len
  · have ha' := (key len).1 ha
    rw [if_pos (by omega), if_pos ha', if_pos ha]
    obtain ⟨q', hq', hg⟩ := rowsL_get (r := 0) ha'
    rw [h1] at hq'; cases hq'
    rw [Nat.zero_add] at hg
    simpa using hg
  · rw [if_neg ha]
    have ha' : ¬ j < len * qs.length := fun h => ha ((key len).2 h)
    by_cases hb : j / qs.length < len + k
    · have hb' := (key (len + k)).1 hb
      rw [Nat.add_mul] at hb'
      rw [if_pos hb', if_neg ha', if_pos hb]
      have hmod : (j - len * qs.length) % qs.length = j % qs.length := by
        rw [show j = (j - len * qs.length) + len * qs.length by omega, Nat.add_mul_mod_self_right, Nat.add_sub_cancel]
      have hdiv : (j - len * qs.length) / qs.length = j / qs.length - len := by
        rw [Nat.mul_comm len, Nat.sub_mul_div]
      obtain ⟨p', hp', hg⟩ := rowsL_get (cols := ps) (r := r') (n := k) (j := j - len * qs.length) (by rw [hps]; omega)
      rw [hps, hmod, h2] at hp'; cases hp'
      rw [hps, hdiv] at hg
      simpa using hg
    · rw [if_neg hb]
      have hb' : ¬ j < len * qs.length + k * qs.length := by rw [← Nat.add_mul]; exact fun h => hb ((key _).2 h)
      rw [if_neg hb']
      have hc' := (key cap).1 h3
      have hzl : zs.size = qs.length := by simpa using hq.symm
      have hmod : (j - (len * qs.length + k * qs.length)) % qs.length = j % qs.length := by
        rw [← Nat.add_mul] at hb' ⊢
        rw [show j = (j - (len + k) * qs.length) + (len + k) * qs.length by omega, Nat.add_mul_mod_self_right, Nat.add_sub_cancel]
      have hlt : j - (len * qs.length + k * qs.length) < (cap - (len + k)) * zs.size := by
        rw [hzl, Nat.sub_mul, Nat.add_mul]; rw [← Nat.add_mul] at hb' ⊢; omega
      unfold Builtin.zeroCells
      rw [Array.getElem?_map, Array.getElem?_range, if_pos hlt]
      simp [hzl, hmod]

theorem flatInts_get {k : IntKind} : ∀ {n : Nat} {l : List SA} {g : List Int}, flatInts k n l = some g → ∀ i, i < n → l[i]? = some (.v (.int k (g.getD i 0)))
  | 0, _, _, _, i, hi => absurd hi (Nat.not_lt_zero i)
  | n + 1, [], _, h, _, _ => by simp [flatInts] at h
  | n + 1, a :: l, g, h, i, hi => by
    unfold flatInts at h
    split at h
    · rename_i h9; cases h9
    · rename_i n' k' x l' hn hl
      cases hn; cases hl
      split at h
      · rename_i r hk hr
        cases h
        obtain rfl := kind_eq hk
        cases i with
        | zero => rfl
        | succ i =>
          rw [List.getElem?_cons_succ, List.getD_cons_succ]
          exact flatInts_get hr i (by omega)
      · cases h
    · cases h
theorem viewTab_ok (h : Rel e w0 W m w) {j n N : Nat} {cols : List Col} (hv : viewTab m j n = some (N, cols)) : ∃ b, RegOK e w (e j) ⟨b, .tab N cols⟩ := by
  unfold viewTab at hv
  split at hv
  · rename_i b N' cols' hreg
    cases hv
    exact ⟨b, h.reg j _ (reg_of hreg)⟩
  · rename_i b k x l hreg
    split at hv
    · rename_i g hg
      cases hv
      have hR := h.reg j _ (reg_of hreg)
      refine ⟨false, ⟨fun jj v hc => ?_, fun es q hm => by cases hm⟩⟩
      simp only [Con.cell, List.length_singleton, Nat.div_one, Nat.mod_one] at hc
      split at hc
      · rename_i hlt
        have hv2 : v = .int k (g.getD jj 0) := by simpa [Col.at_] using hc.symm
        obtain ⟨a, ha, hcell, _⟩ := hR.cell jj v (by
          show (((SA.v (.int k x) :: l)[jj]?).map (SA.den e)) = some v
          rw [flatInts_get hg jj hlt, hv2]; rfl)
        exact ⟨a, ha, hcell, fun hf => by cases hf⟩
      · cases hc
    · cases hv
  · cases hv

theorem valsOne_at : ∀ {l : List Col} {c : Nat} {g : Nat → Value}, valsOne l → l[c]? = some (.val g) → ∀ r, (g r).oneCell' = true
  | [], c, g, _, h, _ => by simp at h
  | q :: l, 0, g, hv, h, r => by
    simp at h
    subst h
    exact hv.1 r
  | q :: l, c + 1, g, hv, h, r => by
    have hv' : valsOne l := by
      cases q with
      | int a b => exact hv
      | bool a => exact hv
      | val a => exact hv.2
    exact valsOne_at hv' (by simpa using h) r
/-- rows put behind those of a known table: whatever does so -/
theorem append_core (h : Rel e w0 W m w) (hok : Mem.ok m = true) {el : TypeId} {inf : TypeInfo} {z : Value} {i N ln cap k r' : Nat} {cols cols' : List Col} {X : TypeId → Sem Value} (hst : cols'.length = inf.size) (hst0 : cols'.length ≠ 0)
    (hregx : m.reg i = some ⟨true, .tab N cols⟩) (hal : alikeCols cols cols' z.cells.toList = true) (ho1 : ln ≤ cap) (ho2 : cap ≤ N) (ho3 : cap ≤ 9223372036854775807) (ho6 : ln + k ≤ 137438953472) (hvo : valsOne cols')
    (run0 : k = 0 → ∀ ty, (X ty).run P w = .ok (.slice (e i) ln cap) w)
    (runIn : ∀ a w', e i = some a → 0 < k → ln + k ≤ cap → (storeCells (a.add (ln * inf.size)) (rowsL cols' r' k)).run P w = .ok () w' → ∀ ty, (X ty).run P w = .ok (.slice (some a) (ln + k) cap) w')
    (runGrow : 0 < k → cap < ln + k → (∀ jj u, (rowsL cols 0 ln)[jj]? = some u → ∃ a, e i = some a ∧ w.cell? (a.add jj) = some u) → (e i = none → cap = 0) →
      ∀ ty, (X ty).run P w = .ok (.slice (some ⟨w.heap.size, 0, none⟩) (ln + k) (grownCap w (ln + k) cap el)) (w.drew.alloc (.cells ((rowsL cols 0 ln).toArray ++ (rowsL cols' r' k).toArray ++ Builtin.zeroCells z.cells (grownCap w (ln + k) cap el - (ln + k))) el))) :
    ∃ (cap' : Nat) (tl : Tail) (A : Option Addr) (w' : World), ln + k ≤ cap' ∧ cap' ≤ 9223372036854775807 ∧ (∀ ty, (X ty).run P w = .ok (.slice A (ln + k) cap') w') ∧
      ∀ e' : Env, (∀ i, i < m.length → e' i = e i) → e' m.length = A → Rel e' w0 W (m.set i none ++ [some ⟨true, .tab cap' (joinCols ln k r' tl 0 cols cols')⟩]) w' := by
  have hzs : ∀ {qs : List Col}, alikeCols qs cols' z.cells.toList = true → z.cells.size = cols'.length ∧ qs.length = cols'.length := by
    intro qs hal
    obtain ⟨h1, h2, _⟩ := alike_get hal
    have h3 : z.cells.toList.length = z.cells.size := Array.length_toList
    omega
  -- a new block
  have grow : ∀ {m1 : Mem} {qs : List Col} {ln kk : Nat} {tt : TypeId}, alikeCols qs cols' z.cells.toList = true → m1.length = m.length → Mem.ok m1 = true → Rel e w0 W m1 w → ∀ (cap : Nat), ln + kk ≤ cap → ∀ e' : Env, (∀ i, i < m.length → e' i = e i) →
      e' m.length = some ⟨w.heap.size, 0, none⟩ → Rel e' w0 W (m1 ++ [some ⟨true, .tab cap (joinCols ln kk r' (tailOf fun c _ => z.cells[c]!) 0 qs cols')⟩])
        (w.drew.alloc (.cells ((rowsL qs 0 ln).toArray ++ (rowsL cols' r' kk).toArray ++ Builtin.zeroCells z.cells (cap - (ln + kk))) tt)) := by
    intro m1 qs ln kk tt hal hml hok1 h1 cap hcap e' hag hn
    refine h1.drew.alloc (fun i hi => hag i (by omega)) (by rw [hml]; exact hn) hok1 ⟨fun jj v hv => ⟨_, rfl, ?_, fun _ => frozen_new _ _ _ _⟩, fun es q hm => by cases hm⟩
    have := cell_new w.drew ((rowsL qs 0 ln).toArray ++ (rowsL cols' r' kk).toArray ++ Builtin.zeroCells z.cells (cap - (ln + kk))) tt jj
    rw [show w.drew.heap.size = w.heap.size from rfl] at this
    rw [show w.drew.heap.size = w.heap.size from rfl, this]
    exact grown_cells hal hcap hv
  obtain ⟨hzs1, hqs⟩ := hzs hal
  have hmi := reg_of hregx
  have hRx := h.reg i _ hmi
  have hil : i < m.length := (List.getElem?_eq_some_iff.1 hmi).1
  -- what stands in place
  have stay : ∀ {w' : World} (A : Option Addr), e i = A → Rel e w0 W (m.set i (some ⟨true, .tab cap (joinCols ln k r' (tailOf fun c r => match cols[c]? with | some q => q.at_ r | none => undef) 0 cols cols')⟩)) w' → ∀ e' : Env, (∀ i, i < m.length → e' i = e i) → e' m.length = A →
      Rel e' w0 W (m.set i none ++ [some ⟨true, .tab cap (joinCols ln k r' (tailOf fun c r => match cols[c]? with | some q => q.at_ r | none => undef) 0 cols cols')⟩]) w' := by
    intro w' A hA h2 e' hag hn
    have h3 := h2.drop i
    rw [List.set_set] at h3
    have hgi : (m.set i (some (⟨true, .tab cap (joinCols ln k r' (tailOf fun c r => match cols[c]? with | some q => q.at_ r | none => undef) 0 cols cols')⟩ : Reg)))[i]? = some (some ⟨true, .tab cap (joinCols ln k r' (tailOf fun c r => match cols[c]? with | some q => q.at_ r | none => undef) 0 cols cols')⟩) := List.getElem?_set_self hil
    have h4 := h2.reg i _ hgi
    have hlen : (m.set i none).length = m.length := by simp
    refine h3.push (A := A) (fun q hq => hag q (by rw [hlen] at hq; exact hq)) (Mem.ok_drop hok i) (by rw [hlen]; exact hn) ?_ ?_ ?_ (Objs.renamed h2.obj hil (fun _ _ _ hm => by cases hm) hA) (fun _ _ _ _ hm => by cases hm)
    · rw [← hA]; exact ⟨h4.cell, h4.map⟩
    · intro hs q rq a b hq hsq ha hb
      have hqi : q ≠ i := by
        rintro rfl
        rw [List.getElem?_set_self hil] at hq; cases hq
      rw [List.getElem?_set_ne (Ne.symm hqi)] at hq
      exact h2.sep i q _ rq a b (Ne.symm hqi) hgi (by rw [List.getElem?_set_ne (Ne.symm hqi)]; exact hq) rfl hs hsq (hA.trans ha) hb
    · intro hs a ha
      exact h2.wr i _ a hgi rfl hs (hA.trans ha)
  -- each of its cells
  have cells : ∀ jj v, (Con.tab cap (joinCols ln k r' (tailOf fun c r => match cols[c]? with | some q => q.at_ r | none => undef) 0 cols cols')).cell e jj = some v →
      if ln * cols.length ≤ jj ∧ jj < ln * cols.length + (rowsL cols' r' k).length then (rowsL cols' r' k)[jj - ln * cols.length]? = some v else (Con.tab N cols).cell e jj = some v := by
    intro jj v hv
    obtain ⟨q, p, h1, h2, h3, hpos, h4⟩ := join_cell hal (fun c r q p z' hq hp hz' _ _ => by
      have hal3 := (alike_get hal).2.2 c q p z' hq hp hz'
      simp only [hq]
      rcases hal3 with ⟨a, g, g', n, rfl, rfl, rfl⟩ | ⟨g, g', b, rfl, rfl, rfl⟩ | ⟨g, g', rfl, rfl⟩
      · exact .inl ⟨a, g, g', g r, rfl, rfl, rfl⟩
      · exact .inr (.inl ⟨g, g', g r, rfl, rfl, rfl⟩)
      · exact .inr (.inr ⟨g, g', rfl, rfl⟩)) hv
    have key : ∀ n, jj / cols.length < n ↔ jj < n * cols.length := fun n => Nat.div_lt_iff_lt_mul hpos
    rw [rowsL_len, ← hqs]
    by_cases hb : ln * cols.length ≤ jj ∧ jj < ln * cols.length + k * cols.length
    · rw [if_pos hb]
      have h5 : ¬ jj / cols.length < ln := fun hh => by have := (key ln).1 hh; omega
      have h6 : jj / cols.length < ln + k := (key _).2 (by rw [Nat.add_mul]; exact hb.2)
      rw [if_neg h5, if_pos h6] at h4
      have hmod : (jj - ln * cols.length) % cols.length = jj % cols.length := by
        have := hb.1
        rw [show jj = (jj - ln * cols.length) + ln * cols.length by omega, Nat.add_mul_mod_self_right, Nat.add_sub_cancel]
      have hdiv : (jj - ln * cols.length) / cols.length = jj / cols.length - ln := by
        rw [Nat.mul_comm ln, Nat.sub_mul_div]
      obtain ⟨p', hp', hg⟩ := rowsL_get (cols := cols') (r := r') (n := k) (j := jj - ln * cols.length) (by rw [← hqs]; omega)
      rw [← hqs, hmod, h2] at hp'; cases hp'
      rw [← hqs, hdiv] at hg
      rw [hg, h4]
    · rw [if_neg hb]
      have h7 : jj / cols.length < N := by omega
      simp only [Con.cell, if_pos h7, h1, Option.map_some]
      rw [h4]
      by_cases h5 : jj / cols.length < ln
      · rw [if_pos h5]
      · rw [if_neg h5]
        have h6 : ¬ jj / cols.length < ln + k := fun hh => by
          have h8 := (key (ln + k)).1 hh
          rw [Nat.add_mul] at h8
          have h9 : ¬ jj < ln * cols.length := fun hh => h5 ((key ln).2 hh)
          omega
        rw [if_neg h6, h1]
  rcases Nat.eq_zero_or_pos k with hk | hk
  · subst hk
    refine ⟨cap, _, e i, w, by omega, ho3, run0 rfl, stay (e i) rfl (h.weaken hmi fun jj v hv => ?_)⟩
    have := cells jj v hv
    rw [rowsL_len, Nat.zero_mul, if_neg (by omega)] at this
    exact this
  · by_cases hroom : ln + k ≤ cap
    · -- there is room
      have hcpos : 0 < cols.length := by omega
      obtain ⟨q0, hq0, _⟩ := rowsL_get (cols := cols) (r := 0) (n := N) (j := 0) (Nat.mul_pos (by omega) hcpos)
      rw [Nat.zero_mod] at hq0
      obtain ⟨a, ha, _⟩ := hRx.cell _ _ (tab_cell (e := e) (n := N) (r := 0) (by omega) hq0)
      have hne : rowsL cols' r' k ≠ [] := by
        intro h0
        have := rowsL_len cols' r' k
        rw [h0] at this
        have := Nat.mul_pos hk (show 0 < cols'.length by omega)
        simp at *; omega
      obtain ⟨w', hst', hrel'⟩ := h.write (P := P) hmi ha (off := ln * cols.length) hne (fun v hv => by
        obtain ⟨jj, hjj, rfl⟩ := List.getElem_of_mem hv
        obtain ⟨p, hp, hg⟩ := rowsL_get (cols := cols') (r := r') (n := k) (j := jj) (by rw [← rowsL_len cols' r' k]; exact hjj)
        rw [List.getElem?_eq_getElem hjj] at hg
        rw [Option.some.inj hg]
        have hc : jj % cols'.length < cols'.length := Nat.mod_lt _ (by omega)
        obtain ⟨h1, h2, h3⟩ := alike_get hal
        have hc1 : jj % cols'.length < cols.length := by omega
        have hc2 : jj % cols'.length < z.cells.toList.length := by omega
        rcases h3 (jj % cols'.length) _ p _ (List.getElem?_eq_getElem hc1) hp (List.getElem?_eq_getElem hc2) with ⟨_, _, _, _, _, h9, _⟩ | ⟨_, _, _, _, h9, _⟩ | ⟨_, _, _, h9⟩
        · rw [h9]; rfl
        · rw [h9]; rfl
        · rw [h9]; exact valsOne_at hvo (hp.trans (congrArg some h9)) _) (fun jj hjj => by
        rw [rowsL_len, ← hqs] at hjj
        have hd' : (ln * cols.length + jj) / cols.length < N := by
          rw [Nat.div_lt_iff_lt_mul hcpos]
          have : (ln + k) * cols.length ≤ N * cols.length := Nat.mul_le_mul_right _ (by omega)
          rw [Nat.add_mul] at this
          omega
        exact ⟨(cols[(ln * cols.length + jj) % cols.length]'(Nat.mod_lt _ hcpos)).at_ ((ln * cols.length + jj) / cols.length), by
          simp only [Con.cell, if_pos hd', List.getElem?_eq_getElem (Nat.mod_lt (ln * cols.length + jj) hcpos), Option.map_some]⟩) cells (fun es q hm => by cases hm)
      exact ⟨cap, _, some a, w', hroom, ho3, runIn a w' ha hk hroom (by rw [← hst, ← hqs]; exact hst'), stay (some a) ha hrel'⟩
    · -- a new block
      have hge := grownCap_ge w (ln + k) cap el
      refine ⟨grownCap w (ln + k) cap el, tailOf fun c _ => z.cells[c]!, some ⟨w.heap.size, 0, none⟩, _, hge, grownCap_le_maxLen w (ln + k) cap el (by simp only [maxLen]; omega), runGrow hk (by omega) (fun jj u hu => ?_) (fun hA => ?_),
        fun e' hag hn => grow (m1 := m.set i none) (qs := cols) (ln := ln) (tt := el) hal (by simp) (Mem.ok_drop hok i) (h.drop i) _ hge e' hag hn⟩
      · obtain ⟨a', ha', hcell⟩ := rowsL_cell hRx (show 0 + ln ≤ N by omega) hu
        rw [Nat.zero_mul, Addr.add_zero'] at hcell
        exact ⟨a', ha', hcell⟩
      · rcases Nat.eq_zero_or_pos cap with h0 | h0
        · exact h0
        · have hcpos : 0 < cols.length := by omega
          obtain ⟨q0, hq0, _⟩ := rowsL_get (cols := cols) (r := 0) (n := N) (j := 0) (Nat.mul_pos (by omega) hcpos)
          rw [Nat.zero_mod] at hq0
          obtain ⟨a, ha, _⟩ := hRx.cell _ _ (tab_cell (e := e) (n := N) (r := 0) (by omega) hq0)
          rw [hA] at ha; cases ha

theorem slc_den0 (e : Env) (i st ln cap : Nat) : SA.den e (.slc i st 0 ln cap) = .slice (e i) ln cap := by
  cases he : e i <;> simp [SA.den, at_, he, Addr.add_zero']

theorem rdAppend_ok (h : Rel e w0 W m w) (hok : Mem.ok m = true) {t : TypeId} {x y : SA} {ob : Prop} {gone : Option Nat} {st len : Nat} {reg : Nat → Tail → Reg} (hr : rdAppend P m t x y = .app ob gone st len reg) (ho : ob) :
    ∃ (cap : Nat) (tl : Tail) (A : Option Addr) (w' : World), len ≤ cap ∧ cap ≤ 9223372036854775807 ∧ (∀ ty, (Builtin.append_ #[t, t] ty #[x.den e, y.den e]).run P w = .ok (.slice A len cap) w') ∧
      ∀ e' : Env, (∀ i, i < m.length → e' i = e i) → e' m.length = A → Rel e' w0 W (goneR gone m ++ [some (reg cap tl)]) w' := by
  unfold rdAppend at hr
  split at hr
  · rename_i el j st' r' k cy hd
    split at hr
    · rename_i inf N' cols' hinf hregy
      split at hr
      · rename_i z hz hst hcl hst0 hby
        have hby := Nat.ble_iff.1 hby
        have hst := Nat.beq_iff.1 hst
        have hcl := Nat.beq_iff.1 hcl
        have hst0 : st' ≠ 0 := by intro h0; rw [h0] at hst0; simp at hst0
        subst hcl
        obtain ⟨bY, hRy⟩ := viewTab_ok h hregy
        have hzs : ∀ {qs : List Col}, alikeCols qs cols' z.cells.toList = true → z.cells.size = cols'.length ∧ qs.length = cols'.length := by
          intro qs hal
          obtain ⟨h1, h2, _⟩ := alike_get hal
          have h3 : z.cells.toList.length = z.cells.size := Array.length_toList
          omega
        -- a new block
        have grow : ∀ {m1 : Mem} {qs : List Col} {ln kk : Nat} {tt : TypeId}, alikeCols qs cols' z.cells.toList = true → m1.length = m.length → Mem.ok m1 = true → Rel e w0 W m1 w → ∀ (cap : Nat), ln + kk ≤ cap → ∀ e' : Env, (∀ i, i < m.length → e' i = e i) →
            e' m.length = some ⟨w.heap.size, 0, none⟩ → Rel e' w0 W (m1 ++ [some ⟨true, .tab cap (joinCols ln kk r' (tailOf fun c _ => z.cells[c]!) 0 qs cols')⟩])
              (w.drew.alloc (.cells ((rowsL qs 0 ln).toArray ++ (rowsL cols' r' kk).toArray ++ Builtin.zeroCells z.cells (cap - (ln + kk))) tt)) := by
          intro m1 qs ln kk tt hal hml hok1 h1 cap hcap e' hag hn
          refine h1.drew.alloc (fun i hi => hag i (by omega)) (by rw [hml]; exact hn) hok1 ⟨fun jj v hv => ⟨_, rfl, ?_, fun _ => frozen_new _ _ _ _⟩, fun es q hm => by cases hm⟩
          have := cell_new w.drew ((rowsL qs 0 ln).toArray ++ (rowsL cols' r' kk).toArray ++ Builtin.zeroCells z.cells (cap - (ln + kk))) tt jj
          rw [show w.drew.heap.size = w.heap.size from rfl] at this
          rw [show w.drew.heap.size = w.heap.size from rfl, this]
          exact grown_cells hal hcap hv
        split at hr
        · -- onto nil
          split at hr
          · rename_i hal
            obtain ⟨rfl, rfl, rfl, rfl, rfl⟩ := R.app.inj hr
            obtain ⟨ho1, ho3⟩ := ho
            have ho2 : k * inf.bytes ≤ 140737488355328 := Nat.le_trans (Nat.mul_le_mul ho3 hby) (by decide)
            obtain ⟨hzs1, _⟩ := hzs hal
            rcases Nat.eq_zero_or_pos k with hk | hk
            · subst hk
              refine ⟨0, tailOf fun _ _ => undef, none, w, Nat.le_refl _, by omega, fun ty => ?_, fun e' hag hn => ?_⟩
              · exact run_append_zero hd hinf (Nat.le_refl 0) ty w
              · refine h.push hag hok hn ⟨fun jj v hv => ?_, fun es q hm => by cases hm⟩ (fun hs => absurd hs.1 (by simp)) (fun hs => absurd hs.1 (by simp)) (h.obj.imp fun F hF => ⟨hF, fun _ hs => absurd hs.1 (by simp)⟩)
                simp [Con.cell] at hv
            · obtain ⟨a, ha, _⟩ := rowsL_cell hRy ho1 (j := 0) (u := _) ((rowsL_get (cols := cols') (r := r') (n := k) (j := 0) (Nat.mul_pos hk (by omega))).choose_spec.2)
              refine ⟨grownCap w k 0 el, tailOf fun c _ => z.cells[c]!, some ⟨w.heap.size, 0, none⟩, _, grownCap_ge w k 0 el, ?_, fun ty => ?_, fun e' hag hn => grow (qs := cols') (ln := 0) (tt := el) hal rfl hok h _ (by simpa using grownCap_ge w k 0 el) e' hag hn⟩
              · exact grownCap_le_maxLen w k 0 el (by simp only [maxLen]; omega)
              · have := run_append_nil (P := P) w t ty el inf z hd hinf hz (a.add (r' * cols'.length)) k cy (rowsL cols' r' k) (by rw [rowsL_len, hst]) (fun jj u hu => by
                  obtain ⟨a', ha', hcell⟩ := rowsL_cell hRy ho1 hu
                  rw [ha] at ha'; cases ha'; exact hcell) hk (by omega) (by omega)
                simp only [SA.den, at_, ha, Option.map_some]
                rw [this]
                simp [rowsL]
          · cases hr
        · -- onto a known one
          rename_i i sti r ln cap
          split at hr
          · rename_i N cols hregx hst2 hr0 hij
            have hst2 := Nat.beq_iff.1 hst2
            have hr0 := Nat.beq_iff.1 hr0
            have hij : i ≠ j := by intro h0; rw [h0] at hij; simp at hij
            subst hst2
            subst hr0
            split at hr
            · rename_i hal
              obtain ⟨rfl, rfl, rfl, rfl, rfl⟩ := R.app.inj hr
              obtain ⟨ho1, ho2, ho3, ho4, ho6, hvo⟩ := ho
              have ho5 : (ln + k) * inf.bytes ≤ 140737488355328 := Nat.le_trans (Nat.mul_le_mul ho6 hby) (by decide)
              obtain ⟨hzs1, hqs⟩ := hzs hal
              have hx0 := slc_den0 e i cols'.length ln cap
              have news : 0 < k → ∃ b, e j = some b ∧ (∀ jj u, (rowsL cols' r' k)[jj]? = some u → w.cell? ((b.add (r' * cols'.length)).add jj) = some u) ∧ SA.den e (.slc j cols'.length r' k cy) = .slice (some (b.add (r' * cols'.length))) k cy := fun hk => by
                obtain ⟨b, hb, _⟩ := rowsL_cell hRy ho4 (j := 0) (u := _) ((rowsL_get (cols := cols') (r := r') (n := k) (j := 0) (Nat.mul_pos hk (by omega))).choose_spec.2)
                refine ⟨b, hb, fun jj u hu => ?_, by simp [SA.den, at_, hb]⟩
                obtain ⟨a', ha', hcell⟩ := rowsL_cell hRy ho4 hu
                rw [hb] at ha'; cases ha'; exact hcell
              have hnl : (rowsL cols' r' k).length = k * inf.size := by rw [rowsL_len, hst]
              refine append_core h hok (el := el) hst (by omega) hregx hal ho1 ho2 ho3 ho6 hvo (fun hk ty => ?_) (fun a w' ha hk hroom hst' ty => ?_) (fun hk hg hold hnone ty => ?_)
              · subst hk
                rw [hx0]; exact run_append_zero hd hinf ho1 ty w
              · obtain ⟨b, hb, hnews, hy⟩ := news hk
                rw [hx0, hy, ha]
                exact run_append_in hd hinf hnl hnews hroom hst' ty
              · obtain ⟨b, hb, hnews, hy⟩ := news hk
                rw [hx0, hy]
                cases hA : e i with
                | some a =>
                  refine run_append_grow (P := P) w t ty el inf z hd hinf hz a ln cap (rowsL cols 0 ln) (by rw [rowsL_len, hqs, hst]) (fun jj u hu => ?_) (b.add (r' * cols'.length)) k cy _ hnl hnews hg (by omega) (growslice_fits (by omega) ho5)
                  obtain ⟨a', ha', hcell⟩ := hold jj u hu
                  rw [hA] at ha'; cases ha'
                  exact hcell
                | none =>
                  obtain rfl := hnone hA
                  obtain rfl : ln = 0 := by omega
                  have := run_append_nil (P := P) w t ty el inf z hd hinf hz (b.add (r' * cols'.length)) k cy (rowsL cols' r' k) hnl hnews hk (by omega) (by rw [Nat.zero_add] at ho5; omega)
                  rw [this]
                  simp [rowsL]
            · cases hr
          · cases hr
        · cases hr
      · cases hr
    · cases hr
  · cases hr

theorem zeroCol_at (v : Value) (r : Nat) : (zeroCol v).at_ r = v := by
  unfold zeroCol
  split <;> rfl

theorem rowsL_zero (z : Array Value) (k : Nat) : rowsL (z.toList.map zeroCol) 0 k = (Builtin.zeroCells z k).toList := by
  unfold rowsL Builtin.zeroCells
  apply List.ext_getElem?
  intro j
  simp only [List.length_map, Array.length_toList, Array.toList_map, Array.toList_range, List.getElem?_map]
  by_cases hj : j < k * z.size
  · rw [List.getElem?_range hj]
    have hp : 0 < z.size := (Nat.eq_zero_or_pos z.size).elim (fun h0 => by rw [h0] at hj; omega) id
    have hm : j % z.size < z.size := Nat.mod_lt _ hp
    simp only [Option.map_some, Array.getElem?_toList, Array.getElem?_eq_getElem hm, zeroCol_at]
    simp [getElem!_def, hm]
  · rw [List.getElem?_eq_none (by simp; omega)]; rfl

theorem rdAppZ_ok (h : Rel e w0 W m w) (hok : Mem.ok m = true) {t u : TypeId} {x : SA} {kq : IntKind} {n : Int} {ob : Prop} {gone : Option Nat} {st len : Nat} {reg : Nat → Tail → Reg} (hr : rdAppZ P m t u x n = .app ob gone st len reg) (ho : ob) :
    ∃ (cap : Nat) (tl : Tail) (A : Option Addr) (w' : World), len ≤ cap ∧ cap ≤ 9223372036854775807 ∧ (∀ ty, (Builtin.append_ #[t, u] ty #[x.den e, .int kq n]).run P w = .ok (.slice A len cap) w') ∧
      ∀ e' : Env, (∀ i, i < m.length → e' i = e i) → e' m.length = A → Rel e' w0 W (goneR gone m ++ [some (reg cap tl)]) w' := by
  unfold rdAppZ at hr
  split at hr
  · rename_i el ku i st' r ln cap hd hu
    split at hr
    · rename_i inf N cols hinf hregx
      split at hr
      · rename_i z hz hst hcl hr0 hst0 hby
        have hby := Nat.ble_iff.1 hby
        have hst := Nat.beq_iff.1 hst
        have hcl := Nat.beq_iff.1 hcl
        have hr0 := Nat.beq_iff.1 hr0
        have hst0 : st' ≠ 0 := by intro h0; rw [h0] at hst0; simp at hst0
        subst hcl
        subst hr0
        split at hr
        · rename_i hal
          obtain ⟨rfl, rfl, rfl, rfl, rfl⟩ := R.app.inj hr
          obtain ⟨ho0, ho1, ho2, ho3, ho6, hvo⟩ := ho
          obtain ⟨k, rfl⟩ : ∃ k : Nat, n = k := ⟨n.toNat, by omega⟩
          rw [Int.toNat_natCast] at *
          obtain ⟨h7, h8, _⟩ := alike_get hal
          have hx0 := slc_den0 e i cols.length ln cap
          have hw : IntKind.i64.wrap (k : Int) = k := by rw [IntKind.wrap_i64]; omega
          have hneg : ¬ ((k : Int) < 0) := by omega
          have hkb : k * inf.bytes ≤ 140737488355328 := Nat.le_trans (Nat.mul_le_mul (show k ≤ 137438953472 by omega) hby) (by decide)
          have h48i : ¬ (281474976710656 < (k : Int) * (inf.bytes : Int)) := by
            rw [← Int.natCast_mul]
            omega
          have ho5 : (ln + k) * inf.bytes ≤ 140737488355328 := Nat.le_trans (Nat.mul_le_mul ho6 hby) (by decide)
          refine append_core h hok (el := el) (X := fun ty => Builtin.append_ #[t, u] ty #[SA.den e (.slc i cols.length 0 ln cap), .int kq k]) (by rw [h8, ← h7]; exact hst) (by rw [h8, ← h7]; exact hst0) hregx hal ho1 ho2 ho3 ho6 hvo (fun hk ty => ?_) (fun a w' ha hk hroom hst' ty => ?_) (fun hk hg hold hnone ty => ?_)
          · subst hk
            simp only [hx0]
            have hw0 : IntKind.i64.wrap 0 = 0 := rfl
            cases e i <;> simp [Builtin.append_, run_underlying hd, run_underlying hu, sizeOf, typeInfo, hinf, asInt, asIntOf, ho1, hw0, storeCells]
          · simp only [hx0, ha]
            rw [rowsL_zero] at hst'
            have hns : ¬ (k * inf.size = 0) := Nat.mul_ne_zero (by omega) (by omega)
            simp [Builtin.append_, run_underlying hd, run_underlying hu, sizeOf, typeInfo, zeroValue, hinf, hz, asInt, asIntOf, hw, hneg, h48i, hns, hroom, hst']
          · simp only [hx0]
            rw [rowsL_zero]
            have hold2 : (Builtin.firstCells inf.size ln (.slice (e i) ln cap)).run P w.drew = .ok (rowsL cols 0 ln).toArray w.drew := by
              cases hA : e i with
              | some a => exact run_firstCells_some (P := P) w.drew inf.size ln a ln cap (rowsL cols 0 ln) (by rw [rowsL_len, ← hst]) (fun jj v hv => by
                  obtain ⟨a', ha', hc⟩ := hold jj v hv
                  rw [hA] at ha'; cases ha'
                  simpa using hc)
              | none =>
                obtain rfl := hnone hA
                obtain rfl : ln = 0 := by omega
                simp [Builtin.firstCells, rowsL]
            have := Lib.run_append_grow_zeros (P := P) w t u ty el inf z kq ku hd hu hinf hz (e i) ln cap (rowsL cols 0 ln) hold2 k hk (by omega) hg (by omega) (by omega) (growslice_fits (by omega) ho5)
            rw [this]
        · cases hr
      · cases hr
    · cases hr
  · cases hr

theorem rdMake_ok {t : TypeId} {k1 k2 : IntKind} {l c : Int} {ob : Option Prop} {r : Reg} {f : Nat → SV} (hr : rdMake P t l c = .new ob r f) (ho : obp ob) :
    ∃ o', (Instr.makeSlice t (.int k1 l) (.int k2 c)).run P w = .ok (.slice (some ⟨w.heap.size, 0, none⟩) l.toNat c.toNat) (w.alloc o') ∧ (∃ st, ∀ j, f j = .one (.a (.slc j st 0 l.toNat c.toNat))) ∧
      ∀ e' : Env, RegOK e' (w.alloc o') (some ⟨w.heap.size, 0, none⟩) r := by
  unfold rdMake at hr
  split at hr
  · rename_i el hd
    split at hr
    · rename_i inf hinf
      split at hr
      · rename_i z hz
        split at hr
        · rename_i h1 h2 h3
          cases hr
          have h1 := Nat.beq_iff.1 h1
          have h2 : inf.size ≠ 0 := by intro h0; rw [h0] at h2; simp at h2
          have h3 := Nat.ble_iff.1 h3
          obtain ⟨o1, o2, o5⟩ := ho
          have o3 : c ≤ 9223372036854775807 := by omega
          have o4 : c * inf.bytes ≤ 281474976710656 := by
            have h4 : c * (inf.bytes : Int) ≤ 137438953472 * (1024 : Int) := Int.mul_le_mul o5 (by omega) (by omega) (by omega)
            omega
          refine ⟨_, run_make w t el inf z hd hinf hz k1 k2 l c o1 o2 (by rw [Int.mul_comm]; exact o4) o3, ⟨_, fun _ => rfl⟩, fun e' => ⟨fun j v hv => ⟨_, rfl, ?_, fun _ => frozen_new _ _ _ _⟩, fun es k hm => by cases hm⟩⟩
          rw [cell_new]
          have hl : (z.cells.toList.map zeroCol).length = inf.size := by rw [List.length_map, Array.length_toList, h1]
          simp only [Con.cell, hl] at hv
          split at hv
          · rename_i hlt
            have hpos : 0 < inf.size := by omega
            have hj : j < c.toNat * inf.size := (Nat.div_lt_iff_lt_mul hpos).1 hlt
            have hm : j % inf.size < inf.size := Nat.mod_lt _ hpos
            have hm' : j % inf.size < z.cells.size := by omega
            rw [List.getElem?_map, Array.getElem?_toList, Array.getElem?_eq_getElem hm'] at hv
            simp only [Option.map_some, zeroCol_at, Option.some.injEq] at hv
            unfold madeCells
            rw [Array.getElem?_map, Array.getElem?_range, if_pos hj]
            simp [h1, getElem!_def, Array.getElem?_eq_getElem hm', hv]
          · cases hv
        · cases hr
      · cases hr
    · cases hr
  · cases hr

/-! ### Bytes and strings -/

theorem rdStr_val (h : Rel e w0 W m w) {s d : TypeId} {x : SV1} {ob : Option Prop} {v : SV} (hr : rdStr P m s d x = .val ob v) (ho : obp ob) : (convert s d (x.den e)).run P w = .ok (v.den e) w := by
  unfold rdStr at hr
  split at hr
  · rename_i el i st r len cap hs hd
    split at hr
    · rename_i rw N g hel hreg hst
      cases hr
      have hst := Nat.beq_iff.1 hst
      subst hst
      have ho : r + len ≤ N := ho
      have hR := h.reg _ _ (reg_of hreg)
      have hc : ∀ q, q < len → ∃ a, e i = some a ∧ w.cell? ((a.add (r * 1)).add q) = some (.int .u8 (g (r + q))) := by
        intro q hq
        obtain ⟨a, ha, hcell, _⟩ := hR.cell _ _ (tab_cell (e := e) (n := N) (cols := [.int .u8 g]) (r := r + q) (c := 0) (by omega) rfl)
        refine ⟨a, ha, ?_⟩
        have h3 : w.cell? (a.add ((r + q) * 1 + 0)) = some (.int .u8 (g (r + q))) := hcell
        rw [add_add, show r * 1 + q = (r + q) * 1 + 0 by omega]
        exact h3
      show (convert s d (.slice (at_ e i (r * 1)) len cap)).run P w = .ok (.string (bytesOf g r len)) w
      rw [run_convert_bytes_string w s d el _ _ _ hs hel hd]
      cases hei : e i with
      | none =>
        have hl : len = 0 := by
          rcases Nat.eq_zero_or_pos len with h0 | h0
          · exact h0
          · obtain ⟨a, ha, _⟩ := hc 0 h0
            rw [hei] at ha; cases ha
        subst hl
        simp [at_, hei, Conv.bytesToString, bytesOf]
      | some a =>
        have hl := run_loadCells_list (P := P) (w := w) (a.add (r * 1)) (((List.range len).map fun q => g (r + q)).map (Value.int .u8)) (fun j u hu => by
          rw [List.getElem?_map, List.getElem?_map] at hu
          by_cases hj : j < len
          · rw [List.getElem?_range hj] at hu
            cases hu
            obtain ⟨a', ha', hcell⟩ := hc j hj
            rw [hei] at ha'; cases ha'
            exact hcell
          · rw [List.getElem?_eq_none (by simpa using hj)] at hu; cases hu)
        simp only [List.length_map, List.length_range] at hl
        simp only [at_, hei, Option.map_some]
        rw [run_bytesToString w _ _ _ _ hl]
        rfl
    · cases hr
  · rename_i el _ _ hs hd
    split at hr
    · rename_i hel
      cases hr
      show (convert s d (.slice none _ _)).run P w = .ok (.string .empty) w
      rw [run_convert_bytes_string w s d el _ _ _ hs hel hd]
      simp [Conv.bytesToString]
    · cases hr
  · split at hr <;> cases hr
  · split at hr <;> cases hr
  · cases hr

/-- a name is given up for a new one -/
theorem Rel.moved {i : Nat} {con : Con} {w' : World} (h2 : Rel e w0 W (m.set i (some ⟨true, con⟩)) w') (hil : i < m.length) (hok : Mem.ok m = true) {A : Option Addr} (hA : e i = A) {e' : Env} (hag : ∀ i, i < m.length → e' i = e i) (hn : e' m.length = A)
    (hcon : ∀ j, con.cell e' j = con.cell e j) (hob : ∀ t x I, con ≠ .obj t x I := by intro _ _ _ hm; cases hm) : Rel e' w0 W (m.set i none ++ [some ⟨true, con⟩]) w' := by
  have h3 := h2.drop i
  rw [List.set_set] at h3
  have hgi : (m.set i (some (⟨true, con⟩ : Reg)))[i]? = some (some ⟨true, con⟩) := by rw [List.getElem?_set_self hil]
  have h4 := h2.reg i _ hgi
  have hlen : (m.set i none).length = m.length := by simp
  refine h3.push (A := A) (fun q hq => hag q (by rw [hlen] at hq; exact hq)) (Mem.ok_drop hok i) (by rw [hlen]; exact hn) ?_ ?_ ?_ (Objs.renamed h2.obj hil hob hA) (fun rw t x I hh => hob t x I (by cases hh; rfl))
  · rw [← hA]; exact ⟨fun j v hv => h4.cell j v (by rw [← hcon]; exact hv), h4.map⟩
  · intro hs q rq a b hq hsq ha hb
    have hqi : q ≠ i := by
      rintro rfl
      rw [List.getElem?_set_self hil] at hq; cases hq
    rw [List.getElem?_set_ne (Ne.symm hqi)] at hq
    exact h2.sep i q _ rq a b (Ne.symm hqi) hgi (by rw [List.getElem?_set_ne (Ne.symm hqi)]; exact hq) rfl hs hsq (hA.trans ha) hb
  · intro hs a ha
    exact h2.wr i _ a hgi rfl hs (hA.trans ha)

/-- a block is marked behind its end -/
theorem Rel.mark (h : Rel e w0 W m w) {i : Nat} {c : Con} (hi : m[i]? = some (some ⟨true, c⟩)) {a : Addr} (ha : e i = some a) {j : Nat} {v : Value} (hj : c.cell e j = some v) :
    ∃ w', (markStringish a).run P w = .ok () w' ∧ Rel e w0 W m w' := by
  have hR := h.reg i _ hi
  rw [ha] at hR
  have hsome : c.some_ := Con.some_of_cell hj
  obtain ⟨a', ha', hcell, hth⟩ := hR.cell _ _ hj
  cases ha'
  have hth := hth rfl
  obtain ⟨cc, t, lo, hi', hb⟩ : ∃ cc t lo hi', w.heap[a.block]? = some (.cells cc t (lo, hi')) := by
    unfold World.cell? at hcell
    split at hcell
    · rename_i cc t fr hb
      rw [add_block] at hb
      exact ⟨cc, t, fr.1, fr.2, hb⟩
    · cases hcell
  have hth2 := hth cc t lo hi' (by rw [add_block]; exact hb)
  have hsh : w.shape? a.block = some (t, cc.size) := by unfold World.shape?; rw [hb]
  refine ⟨w.freeze ⟨a.block, cc.size, none⟩ 1, ?_, ?_⟩
  · simp only [markStringish, Sem.run_bind, run_shape, Result.andThen_ok, hsh, run_freeze]
  have hne : ∀ b, b ≠ a.block → (w.freeze ⟨a.block, cc.size, none⟩ 1).heap[b]? = w.heap[b]? := by
    intro b hbn
    unfold World.freeze
    rw [if_neg (by decide)]
    show (w.heap.modify a.block _)[b]? = _
    rw [Array.getElem?_modify, if_neg (Ne.symm hbn)]
  obtain ⟨lo2, hi2, hself, h2⟩ : ∃ lo2 hi2, (w.freeze ⟨a.block, cc.size, none⟩ 1).heap[a.block]? = some (.cells cc t (lo2, hi2)) ∧ (lo2 = hi2 ∨ cc.size ≤ lo2) := by
    unfold World.freeze
    rw [if_neg (by decide)]
    refine ⟨(if lo == hi' then (cc.size, cc.size + 1) else (min lo cc.size, max hi' (cc.size + 1))).1, (if lo == hi' then (cc.size, cc.size + 1) else (min lo cc.size, max hi' (cc.size + 1))).2, ?_, ?_⟩
    · show (w.heap.modify a.block _)[a.block]? = _
      rw [Array.getElem?_modify, if_pos rfl, hb]
      rfl
    · by_cases hlh : lo = hi'
      · subst hlh; simp
      · rw [if_neg (by simpa using hlh)]
        right
        show cc.size ≤ min lo cc.size
        rcases hth2 with h9 | h9
        · exact absurd h9 hlh
        · omega
  have hsize : (w.freeze ⟨a.block, cc.size, none⟩ 1).heap.size = w.heap.size := by
    unfold World.freeze
    rw [if_neg (by decide)]
    show (w.heap.modify a.block _).size = _
    simp
  refine ⟨⟨by unfold World.freeze; exact h.fr.os, by unfold World.freeze; exact h.fr.tape, by unfold World.freeze; exact h.fr.output, ?_, fun b hbl hw => ?_⟩, fun k r hk => ?_, h.sep, h.wr, h.obj.imp fun F hF => hF.to (fun hj => ⟨hj, rfl⟩) (by rw [hsize]; exact Nat.le_refl _) (fun hj hb => hne _ fun hh => hF.off hj hi hsome ha (hh ▸ hb)) (fun hi hj hs ha => hF.off hi hj hs ha), h.ro⟩
  · have : (w.freeze ⟨a.block, cc.size, none⟩ 1).heap.size = w.heap.size := by
      unfold World.freeze
      rw [if_neg (by decide)]
      show (w.heap.modify a.block _).size = _
      simp
    rw [this]; exact h.fr.size
  · have hnb : b ≠ a.block := by
      rintro rfl
      rcases h.wr i _ a hi rfl hsome ha with hW | hge
      · exact hw hW
      · omega
    rw [hne b hnb]; exact h.fr.block b hbl hw
  · by_cases hik : i = k
    · subst hik
      rw [hi] at hk
      cases hk
      rw [ha]
      refine ⟨fun q u hq => ?_, fun es k hm => ?_⟩
      · obtain ⟨a', ha', hc2, _⟩ := hR.cell q u hq
        cases ha'
        refine ⟨a, rfl, ?_, fun _ => ?_⟩
        · unfold World.cell? at hc2 ⊢
          rw [add_block] at hc2 ⊢
          rw [hb] at hc2
          rw [hself]
          exact hc2
        · intro c3 t3 lo3 hi3 h3
          rw [add_block, hself] at h3
          cases h3
          exact h2
      · intro j2 hj2
        obtain ⟨a', u, ha', hc2, _⟩ := hR.map es k hm j2 hj2
        cases ha'
        refine ⟨a, u, rfl, ?_, fun _ => ?_⟩
        · unfold World.cell? at hc2 ⊢
          rw [add_block] at hc2 ⊢
          rw [hb] at hc2
          rw [hself]
          exact hc2
        · intro c3 t3 lo3 hi3 h3
          rw [add_block, hself] at h3
          cases h3
          exact h2
    · refine (h.reg k r hk).keep fun b hb2 hs => hne b.block ?_
      exact fun hh => h.sep i k _ r a b hik hi hk rfl hsome hs ha hb2 hh.symm

theorem alloc_freeze (w : World) (c : Array Value) (t : TypeId) (n k : Nat) (hk : k ≠ 0) : (w.alloc (.cells c t)).freeze ⟨w.heap.size, n, none⟩ k = w.alloc (.cells c t (n, n + k)) := by
  unfold World.freeze World.alloc
  rw [if_neg hk]
  congr 1
  apply Array.ext_getElem?
  intro i
  rw [Array.getElem?_modify, Array.getElem?_push, Array.getElem?_push]
  by_cases hi : i = w.heap.size
  · subst hi
    simp
  · rw [if_neg (Ne.symm hi), if_neg hi, if_neg hi]

theorem rdStr_app (h : Rel e w0 W m w) (hok : Mem.ok m = true) {s d : TypeId} {x : SV1} {ob : Prop} {gone : Option Nat} {st len : Nat} {reg : Nat → Tail → Reg} (hr : rdStr P m s d x = .app ob gone st len reg) (ho : ob) :
    ∃ (cap : Nat) (tl : Tail) (A : Option Addr) (w' : World), len ≤ cap ∧ cap ≤ 9223372036854775807 ∧ (convert s d (x.den e)).run P w = .ok (.slice A len cap) w' ∧
      ∀ e' : Env, (∀ i, i < m.length → e' i = e i) → e' m.length = A → Rel e' w0 W (goneR gone m ++ [some (reg cap tl)]) w' := by
  unfold rdStr at hr
  split at hr
  · split at hr <;> cases hr
  · split at hr <;> cases hr
  · rename_i el b hs hd
    split at hr
    · rename_i hel
      obtain ⟨rfl, rfl, rfl, rfl, rfl⟩ := R.app.inj hr
      have ho : b.size ≤ 137438953472 := ho
      have hge := grownCap_ge w b.size 0 el
      have hle := grownCap_le_maxLen w b.size 0 el (by simp only [maxLen]; omega)
      refine ⟨grownCap w b.size 0 el, tailOf fun _ _ => undef, some ⟨w.heap.size, 0, none⟩, w.drew.alloc (.cells (b.data.map (fun (c : UInt8) => Value.int .u8 c.toNat) ++ Array.replicate (grownCap w b.size 0 el - b.size) (Value.int .u8 0)) el (grownCap w b.size 0 el, grownCap w b.size 0 el + 1)), hge, by simpa [maxLen] using hle, ?_, fun e' hag hn => ?_⟩
      · show (convert s d (.string b)).run P w = _
        have hsz : (b.data.map (fun (c : UInt8) => Value.int .u8 c.toNat) ++ Array.replicate (grownCap w b.size 0 el - b.size) (Value.int .u8 0)).size = grownCap w b.size 0 el := by
          have : b.size = b.data.size := rfl
          simp; omega
        have hsh : (w.drew.alloc (.cells (b.data.map (fun (c : UInt8) => Value.int .u8 c.toNat) ++ Array.replicate (grownCap w b.size 0 el - b.size) (Value.int .u8 0)) el)).shape? w.heap.size = some (el, grownCap w b.size 0 el) := by
          have h0 : w.drew.heap.size = w.heap.size := rfl
          unfold World.shape? World.alloc
          rw [← h0]
          simp only [Array.getElem?_push_size]
          rw [hsz]
        have hfr := alloc_freeze w.drew (b.data.map (fun (c : UInt8) => Value.int .u8 c.toNat) ++ Array.replicate (grownCap w b.size 0 el - b.size) (Value.int .u8 0)) el (grownCap w b.size 0 el) 1 (by decide)
        rw [show w.drew.heap.size = w.heap.size from rfl] at hfr
        have hch : (choose (.appendCap b.size 0 el)).run P w = .ok (grownCap w b.size 0 el) w.drew := by
          rw [run_choose_drew]; rfl
        simp only [convert, Sem.run_bind, run_underlying hs, run_underlying hd, Result.andThen_ok, run_underlying hel, Conv.stringToBytes, hch, newRow, run_newObj_alloc, Sem.run_pure, markStringish, run_shape]
        rw [show w.drew.heap.size = w.heap.size from rfl, hsh]
        simp only [Sem.run_bind, run_freeze, Result.andThen_ok, Sem.run_pure, hfr]
      · refine h.drew.alloc hag hn hok ⟨fun jj v hv => ⟨_, rfl, ?_, fun _ => ?_⟩, fun es q hm => (by cases hm)⟩
        · simp only [Con.cell, List.length_cons, List.length_nil, Nat.zero_add, Nat.div_one, Nat.mod_one] at hv
          split at hv
          · rename_i hlt
            have h1 : w.drew.heap.size = w.heap.size := rfl
            have h2 : ∀ (c : Array Value) (f : Nat × Nat), (w.drew.alloc (.cells c el f)).cell? ((⟨w.heap.size, 0, none⟩ : Addr).add jj) = c[jj]? := by
              intro c f
              rw [Addr.add_lit, Nat.zero_add]
              show (match (w.heap.push (Obj.cells c el f))[w.heap.size]? with | some (.cells c _ _) => if (none : Option Nat).isSome then none else c[jj]? | _ => none) = c[jj]?
              simp
            refine (h2 _ _).trans ?_
            have h3 : b.size = b.data.size := rfl
            simp only [List.getElem?_cons_zero, Option.map_some, Col.at_, Option.some.injEq] at hv
            rw [← hv, Array.getElem?_append]
            by_cases hj : jj < b.data.size
            · rw [if_pos (by simpa using hj), Array.getElem?_map, Array.getElem?_eq_getElem hj, if_pos (by omega), List.getD_eq_getElem?_getD, Array.getElem?_toList, Array.getElem?_eq_getElem hj]
              rfl
            · rw [if_neg (by simpa using hj), if_neg (by omega), Array.getElem?_replicate]
              rw [if_pos (by simp; omega)]
          · cases hv
        · intro c3 t3 lo3 hi3 h3
          rw [add_block] at h3
          have h1 : w.drew.heap.size = w.heap.size := rfl
          have h4 : b.size = b.data.size := rfl
          unfold World.alloc at h3
          simp only [Array.getElem?_push_size, Option.some.injEq, Obj.cells.injEq, Prod.mk.injEq] at h3
          obtain ⟨h5, _, h6, _⟩ := h3
          right
          rw [← h5, ← h6]
          simp; omega
    · cases hr
  · rename_i el el' i st r ln cap0 hs hd
    split at hr
    · rename_i N g hel hreg hsd hst hr0
      obtain ⟨rfl, rfl, rfl, rfl, rfl⟩ := R.app.inj hr
      have hsd := Nat.beq_iff.1 hsd
      have hst := Nat.beq_iff.1 hst
      have hr0 := Nat.beq_iff.1 hr0
      subst hsd; subst hst; subst hr0
      rw [hs] at hd; cases hd
      obtain ⟨o1, o2, o3, o4⟩ := ho
      have hmi := reg_of hreg
      have hil : i < m.length := (List.getElem?_eq_some_iff.1 hmi).1
      have hR := h.reg i _ hmi
      have hc0 := tab_cell (e := e) (n := N) (cols := [.int .u8 g]) (r := 0) (c := 0) o4 rfl
      obtain ⟨a, ha, _, _⟩ := hR.cell _ _ hc0
      obtain ⟨w', hrun, hrel⟩ := h.mark (P := P) hmi ha hc0
      refine ⟨cap0, tailOf fun _ q => .int .u8 (g q), some a, w', o1, o3, ?_, fun e' hag hn => ?_⟩
      · show (convert s s (.slice (at_ e i (0 * 1)) ln cap0)).run P w = _
        simp only [at_, ha, Option.map_some, Nat.zero_mul, Addr.add_zero']
        simp [convert, run_underlying hs, run_underlying hel, hrun]
      · have hw : ∀ (e : Env) j v, (Con.tab cap0 [.int .u8 fun q => if q < ln then g q else (tailOf fun _ q => Value.int .u8 (g q)).i 0 q]).cell e j = some v → (Con.tab N [.int .u8 g]).cell e j = some v := by
          intro e j v hv
          simp only [Con.cell, List.length_cons, List.length_nil, Nat.zero_add, Nat.div_one, Nat.mod_one] at hv ⊢
          split at hv
          · rename_i hlt
            rw [if_pos (by omega)]
            rw [← hv]
            simp [Col.at_, tailOf]
          · cases hv
        exact (hrel.weaken hmi (hw e)).moved hil hok ha hag hn fun j => rfl
    · cases hr
  · cases hr

end
end Go.Sx

/-
  Part 8: what 'rdOp' says of an operation is what the operation does.
-/
namespace Go.Sx
open Go.RowKit

section
variable {P : Program} {e : Env} {w0 : World} {W : Nat → Prop} {w : World} {S : St} {a : Act} {o : Oper}

def Good (P : Program) (e : Env) (w0 : World) (W : Nat → Prop) (S : St) (a : Act) (w : World) (o : Oper) : R → Prop
  | .val ob v => obp ob → (execOp a.eval o).run P w = .ok (.value (v.den e)) w
  | .pl ob x n f => obp ob → ∀ j : Nat, j < n → x = (j : Int) → (execOp a.eval o).run P w = .ok (.value ((f j).den e)) w
  | .new ob r f => obp ob → r.con.okN S.m.length = true → ∃ o', ∀ e' : Env, (∀ i, i < S.m.length → e' i = e i) → e' S.m.length = some ⟨w.heap.size, 0, none⟩ →
      (execOp a.eval o).run P w = .ok (.value ((f S.m.length).den e')) (w.alloc o') ∧ RegOK e' (w.alloc o') (some ⟨w.heap.size, 0, none⟩) r
  | .wr ob i r => obp ob → ∃ w', (execOp a.eval o).run P w = .ok .skip w' ∧ Rel e w0 W (S.m.set i (some r)) w'
  | .wrv ob i r v => obp ob → ∃ w', (execOp a.eval o).run P w = .ok (.value (v.den e)) w' ∧ Rel e w0 W (S.m.set i (some r)) w'
  | .app ob gone st len reg => ob → Mem.ok S.m = true → ∃ (cap : Nat) (tl : Tail) (A : Option Addr) (w' : World), len ≤ cap ∧ cap ≤ 9223372036854775807 ∧ (execOp a.eval o).run P w = .ok (.value (.slice A len cap)) w' ∧
      ∀ e' : Env, (∀ i, i < S.m.length → e' i = e i) → e' S.m.length = A → Rel e' w0 W (goneR gone S.m ++ [some (reg cap tl)]) w'
  | .bad | .call .. => True

theorem good_of_vals {s : Sem Value} {r : R} (hv : Vals P e w s r) (hs : execOp a.eval o = do pure (.value (← s))) : Good P e w0 W S a w o r := by
  cases r with
  | val ob v => intro ho; rw [hs]; simp only [Sem.run_bind, hv ho, Result.andThen_ok]; rfl
  | pl ob x n f =>
    intro ho j hj hx
    rw [hs]; simp only [Sem.run_bind, hv ho j hj hx, Result.andThen_ok]; rfl
  | new ob r f => exact hv.elim
  | wr ob i r => exact hv.elim
  | wrv ob i r v => exact hv.elim
  | app => exact hv.elim
  | _ => trivial

theorem cells_eval {v : SV1} (h : v.cells.all SA.one = true) {n : Nat} {e' : Env} (hag : ∀ i, i < n → e' i = e i) (hok : v.cells.all (SA.ok n) = true) : (v.den e).cells = (v.cells.map (SA.den e')).toArray := by
  rw [cells_den v h, map_congr_sa hag hok]

theorem constEval {x : Operand} {v : SV} (hx : S.ev x = some v) (ht : RelT e S a) : ∀ u, x = .const u → v.den e = u := by
  rintro u rfl
  exact (evOk ht hx).symm

theorem rdOp_sound (h : Rel e w0 W S.m w) (ht : RelT e S a) : Good P e w0 W S a w o (rdOp P S o) := by
  unfold rdOp
  split
  · rename_i x hop
    split
    · rename_i v hv
      intro _
      simp [execOp, hop, evOk ht hv]
    · trivial
  · rename_i x hop
    split
    · rename_i v hv
      intro _
      simp [execOp, hop, evOk ht hv]
    · trivial
  · rename_i x hop
    split
    · rename_i p hv
      split
      · rename_i ob hob
        intro ho
        have he := evOk ht hv
        simp only [SV.den, SV1.den] at he
        rcases ptsOb_ok h hob ho with ⟨A, hA⟩ | ⟨f, caps, rfl⟩
        · rw [hA] at he
          simp [execOp, hop, he, SV.den, SV1.den, hA]
        · simp only [SA.den] at he
          simp [execOp, hop, he, SV.den, SV1.den, SA.den]
      · trivial
    · trivial
  · rename_i t x f hop
    split
    · rename_i p hv
      have he := evOk ht hv
      generalize hr : rdField P S.m t p f = r
      cases r with
      | val ob v =>
        intro ho
        have := rdField_ok h hr ho
        simp only [execOp, hop, he, SV.den, SV1.den, Sem.run_bind, this, Result.andThen_ok]; rfl
      | _ => (unfold rdField at hr; repeat' (split at hr)) <;> first | trivial | cases hr
    · trivial
  · rename_i t x ix hop
    split
    · rename_i p iv hv hi
      have he := evOk ht hv
      have hie := evOk ht hi
      refine good_of_vals (rdIndexAddr_ok h (t := t) (x := p) (ix := ix) (iv := iv) fun u hu => ?_) (by simp only [execOp, hop, he, hie]; rfl)
      exact constEval hi ht u hu
    · trivial
  · rename_i t x hop
    split
    · rename_i p hv
      have he := evOk ht hv
      generalize hr : rdLoad P S.m t p = r
      cases r with
      | val ob v =>
        intro ho
        have := rdLoad_ok h hr ho
        simp only [execOp, hop, he, SV.den, SV1.den, Sem.run_bind, this, Result.andThen_ok]; rfl
      | _ => (unfold rdLoad at hr; repeat' (split at hr)) <;> first | trivial | cases hr
    · trivial
  · rename_i t x y hop
    split
    · rename_i p v hv hy
      have he := evOk ht hv
      have hye := evOk ht hy
      generalize hr : rdStore P S.m t p v = r
      cases r with
      | wr ob i r =>
        intro ho
        obtain ⟨w', hrun, hrel⟩ := rdStore_ok h hr ho
        refine ⟨w', ?_, hrel⟩
        simp only [execOp, hop, he, hye, SV.den, SV1.den, Sem.run_bind] at hrun ⊢
        rw [hrun]; rfl
      | _ => (unfold rdStore at hr; repeat' (split at hr)) <;> first | trivial | cases hr
    · trivial
  · rename_i t x f hop
    split
    · rename_i v hv
      have he := evOk ht hv
      exact good_of_vals (rdPart_ok (t := t) (x := v) (f := f)) (by simp only [execOp, hop, he]; rfl)
    · trivial
  · rename_i t x ix hop
    split
    · rename_i v iv hv hi
      have he := evOk ht hv
      have hie := evOk ht hi
      refine good_of_vals (rdIndex_ok (t := t) (x := v) (ix := ix) (iv := iv) fun u hu => ?_) (by simp only [execOp, hop, he, hie]; rfl)
      exact constEval hi ht u hu
    · trivial
  · rename_i x i hop
    split
    · rename_i l hv
      split
      · rename_i v hl
        intro _
        have he := evOk ht hv
        simp [execOp, hop, he, SV.den, Instr.extract, hl]
      · trivial
    · trivial
  · rename_i op t x y ty hop
    split
    · rename_i xv yv hx hy
      have he := evOk ht hx
      have hye := evOk ht hy
      refine good_of_vals (rdBin_ok h (op := op) (t := t) (x := x) (y := y) (xv := xv) (yv := yv) fun u hu => ?_) (by simp only [execOp, hop, he, hye]; rfl)
      exact constEval hy ht u hu
    · trivial
  · rename_i op t x hop
    split
    · rename_i v hv
      have he := evOk ht hv
      exact good_of_vals (rdUn_ok (op := op) (x := v)) (by simp only [execOp, hop, he]; rfl)
    · trivial
  · rename_i s d x hop
    split
    · rename_i v hv
      have he := evOk ht hv
      split
      · exact good_of_vals (rdConv_ok (s := s) (d := d) (x := v)) (by simp only [execOp, hop, he]; rfl)
      · simp only [SV.den] at he
        generalize hr : rdStr P S.m s d v = r
        cases r with
        | val ob u =>
          intro ho
          have := rdStr_val h hr ho
          simp only [execOp, hop, he, Sem.run_bind, this, Result.andThen_ok]; rfl
        | app ob gone st len reg =>
          intro ho hok
          obtain ⟨cap, tl, A, w', h1, h2, h3, h4⟩ := rdStr_app h hok hr ho
          refine ⟨cap, tl, A, w', h1, h2, ?_, h4⟩
          simp only [execOp, hop, he, Sem.run_bind, h3, Result.andThen_ok]; rfl
        | _ => (unfold rdStr at hr; repeat' (split at hr)) <;> first | trivial | cases hr
    · trivial
  · rename_i t parts hop
    split
    · rename_i l hl
      obtain ⟨h1, h2⟩ := evs_ok ht hl
      generalize hr : rdBuild P t l = r
      cases r with
      | val ob v =>
        intro _
        have := rdBuild_ok (e := e) (w := w) h1 hr
        rw [← h2] at this
        have hp : (parts.map fun (i, x) => (i, a.eval x)) = (parts.toList.map fun x => (x.1, a.eval x.2)).toArray := by
          apply Array.toList_inj.1; simp
        simp only [execOp, hop, hp, Sem.run_bind, this, Result.andThen_ok]; rfl
      | _ => (unfold rdBuild at hr; repeat' (split at hr)) <;> first | trivial | cases hr
    · trivial
  · rename_i t len parts hop
    split
    · rename_i l hl
      obtain ⟨h1, h2⟩ := evs_ok ht hl
      generalize hr : rdBuildSlice P t len l = r
      cases r with
      | new ob r f =>
        intro _ hok
        obtain ⟨s, cs, el, hf, hrw, hmp, hcell, hrun⟩ := rdBuildSlice_ok (w := w) h1 hr
        have hrun := hrun e
        rw [← h2] at hrun
        have hp : (parts.map fun (i, x) => (i, a.eval x)) = (parts.toList.map fun x => (x.1, a.eval x.2)).toArray := by
          apply Array.toList_inj.1; simp
        refine ⟨.cells (cs.map (SA.den e)).toArray el, fun e' hag hn => ⟨?_, ⟨fun j v hv => ⟨_, rfl, ?_, fun _ => frozen_new _ _ _ _⟩, fun es k hm => absurd hm (hmp es k)⟩⟩⟩
        · simp only [execOp, hop, hp, Sem.run_bind, hrun, Result.andThen_ok, hf, SV.den, SV1.den, SA.den, at_some hn, Nat.zero_mul, Addr.add_zero']; rfl
        · rw [cell_new]
          rw [Con.congr hag (Con.okN_ok hok)] at hv
          have := hcell e j v hv
          simpa using this
      | _ => (unfold rdBuildSlice at hr; repeat' (split at hr)) <;> first | trivial | cases hr
    · trivial
  · rename_i t hop
    generalize hr : rdAlloc P t = r
    cases r with
    | new ob r f =>
      intro _ _
      obtain ⟨o', hrun, hf, hreg⟩ := rdAlloc_ok (w := w) hr
      refine ⟨o', fun e' hag hn => ⟨?_, hreg e'⟩⟩
      simp only [execOp, hop, Sem.run_bind, hrun, Result.andThen_ok, hf, SV.den, SV1.den, SA.den, at_some hn, Addr.add_zero']; simp
    | _ => (unfold rdAlloc at hr; repeat' (split at hr)) <;> first | trivial | cases hr
  · rename_i t x hop
    split
    · rename_i v hv
      split
      · rename_i hone
        intro _ hok
        have he := evOk ht hv
        refine ⟨.cells (v.den e).cells t, fun e' hag hn => ⟨?_, ?_⟩⟩
        · simp only [execOp, hop, he, SV.den, Instr.box, newVar, newRow, SV1.den, SA.den, at_some hn, Addr.add_zero']; simp
        · rw [cells_eval hone hag hok]
          exact regOK_new (fun j v hv => hv) (fun es k hm => by cases hm)
      · trivial
    · trivial
  · rename_i f first caps hop
    split
    · rename_i l hfi hl
      intro _
      have h1 := capsOf_ok ht hl
      have hf0 : first = #[] := by apply Array.toList_inj.1; simpa using hfi
      subst hf0
      have h2 : caps.map a.eval = (l.map fun c => Value.pointer (at_ e c.1 c.2)).toArray := by
        apply Array.toList_inj.1; simpa using h1
      simp [execOp, hop, Instr.makeFunc, h2, SV.den, SV1.den, SA.den]
    · rename_i x hfi hl
      split
      · rename_i p q i st r len cap hx
        intro _
        have h1 := capsOf_ok ht hl
        have hf0 : first = #[x] := by apply Array.toList_inj.1; simpa using hfi
        subst hf0
        have h2 : caps.map a.eval = #[] := by apply Array.toList_inj.1; simpa using h1
        have hxe := evOk ht hx
        simp only [SV.den, SV1.den, List.map_cons, List.map_nil, SA.den] at hxe
        simp [execOp, hop, Instr.makeFunc, h2, hxe, SV.den, SV1.den, SA.den]
      · trivial
    · trivial
  · rename_i t x lo hi hop
    split
    · rename_i v hv
      have he := evOk ht hv
      exact good_of_vals (rdSlice_ok h ht rfl (t := t) (x := v) (lo := lo) (hi := hi)) (by simp only [execOp, hop, he]; rfl)
    · trivial
  · rename_i args argTypes hop
    split
    · rename_i x t ha hat
      split
      · rename_i v hv
        have he := evOk ht hv
        have ha' : args = #[x] := by apply Array.toList_inj.1; simpa using ha
        have hat' : argTypes = #[t] := by apply Array.toList_inj.1; simpa using hat
        subst ha'; subst hat'
        refine good_of_vals (rdLen_ok h (t := t) (ty := o.type) (x := v)) ?_
        simp only [execOp, hop, resolve, Array.map_singleton, he]
        rfl
      · trivial
    · trivial
  · rename_i args argTypes hop
    split
    · rename_i x y ha
      split
      · rename_i k u k' v hx hy
        have he := evOk ht hx
        have hye := evOk ht hy
        have ha' : args = #[x, y] := by apply Array.toList_inj.1; simpa using ha
        subst ha'
        intro _
        simp [execOp, hop, resolve, he, hye, invoke, builtin, SV.den, SV1.den, SA.den, run_min_int2, int_]
      · trivial
    · trivial
  · rename_i args argTypes hop
    split
    · rename_i x y ha
      split
      · rename_i k u k' v hx hy
        have he := evOk ht hx
        have hye := evOk ht hy
        have ha' : args = #[x, y] := by apply Array.toList_inj.1; simpa using ha
        subst ha'
        intro _
        simp [execOp, hop, resolve, he, hye, invoke, builtin, SV.den, SV1.den, SA.den, run_max_int2, int_]
      · trivial
    · trivial
  · rename_i args argTypes hop
    split
    · rename_i x y t u ha hat
      split
      · rename_i vx vy hx hy htu
        have htu := Nat.beq_iff.1 htu
        subst htu
        have he := evOk ht hx
        have hye := evOk ht hy
        have ha' : args = #[x, y] := by apply Array.toList_inj.1; simpa using ha
        have hat' : argTypes = #[t, t] := by apply Array.toList_inj.1; simpa using hat
        subst ha'; subst hat'
        generalize hr : rdAppend P S.m t vx vy = r
        cases r with
        | app ob gone st len reg =>
          intro ho hok
          obtain ⟨cap, tl, A, w', h1, h2, h3, h4⟩ := rdAppend_ok h hok hr ho
          refine ⟨cap, tl, A, w', h1, h2, ?_, h4⟩
          simp only [SV.den, SV1.den] at he hye
          simp only [execOp, hop, resolve, invoke, builtin, List.map_toArray, List.map_cons, List.map_nil, he, hye, Sem.run_bind, Sem.run_pure, Result.andThen_ok, h3]
        | _ => (unfold rdAppend at hr; repeat' (split at hr)) <;> first | trivial | cases hr
      · rename_i vx kq n hx hy htu
        have he := evOk ht hx
        have hye := evOk ht hy
        have ha' : args = #[x, y] := by apply Array.toList_inj.1; simpa using ha
        have hat' : argTypes = #[t, u] := by apply Array.toList_inj.1; simpa using hat
        subst ha'; subst hat'
        generalize hr : rdAppZ P S.m t u vx n = r
        cases r with
        | app ob gone st len reg =>
          intro ho hok
          obtain ⟨cap, tl, A, w', h1, h2, h3, h4⟩ := rdAppZ_ok (kq := kq) h hok hr ho
          refine ⟨cap, tl, A, w', h1, h2, ?_, h4⟩
          simp only [SV.den, SV1.den] at he hye
          rw [show SA.den e (.v (.int kq n)) = .int kq n from rfl] at hye
          simp only [execOp, hop, resolve, invoke, builtin, List.map_toArray, List.map_cons, List.map_nil, he, hye, Sem.run_bind, Sem.run_pure, Result.andThen_ok, h3]
        | _ => (unfold rdAppZ at hr; repeat' (split at hr)) <;> first | trivial | cases hr
      · trivial
    · trivial
  · rename_i args argTypes hop
    split
    · rename_i x y t u ha hat
      split
      · rename_i vx vy hx hy
        have he := evOk ht hx
        have hye := evOk ht hy
        have ha' : args = #[x, y] := by apply Array.toList_inj.1; simpa using ha
        have hat' : argTypes = #[t, u] := by apply Array.toList_inj.1; simpa using hat
        subst ha'; subst hat'
        generalize hr : rdCopy P S.m t vx vy = r
        cases r with
        | wrv ob i r v =>
          intro ho
          obtain ⟨w', hrun, hrel⟩ := rdCopy_ok h (u := u) (ty := o.type) hr ho
          refine ⟨w', ?_, hrel⟩
          simp only [SV.den, SV1.den] at he hye
          simp only [execOp, hop, resolve, invoke, builtin, List.map_toArray, List.map_cons, List.map_nil, he, hye, Sem.run_bind, Sem.run_pure, Result.andThen_ok, hrun]
        | _ => (unfold rdCopy at hr; repeat' (split at hr)) <;> first | trivial | cases hr
      · trivial
    · trivial
  · rename_i t l c hop
    split
    · rename_i k1 l' k2 c' hl hc
      have he := evOk ht hl
      have hye := evOk ht hc
      generalize hr : rdMake P t l' c' = r
      cases r with
      | new ob r f =>
        intro ho _
        obtain ⟨o', hrun, ⟨st, hf⟩, hreg⟩ := rdMake_ok (w := w) (k1 := k1) (k2 := k2) hr ho
        refine ⟨o', fun e' hag hn => ⟨?_, hreg e'⟩⟩
        simp only [SV.den, SV1.den, SA.den] at he hye
        simp only [execOp, hop, he, hye, Sem.run_bind, hrun, Result.andThen_ok, hf, SV.den, SV1.den, SA.den, at_some hn, Nat.zero_mul, Addr.add_zero']; rfl
      | _ => (unfold rdMake at hr; repeat' (split at hr)) <;> first | trivial | cases hr
    · trivial
  · trivial

end
end Go.Sx
