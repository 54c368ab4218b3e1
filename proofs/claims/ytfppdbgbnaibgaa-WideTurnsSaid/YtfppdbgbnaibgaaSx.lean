/-
  A library of my own: functions of the program are carried out symbolically, and what is left to show is plain. Joined out of its parts by a program.
-/
import Derived.WalkKit
import Derived.Deep.Quiet
import Derived.StillTail
import Derived.KernelRfl
import Derived.ChangeKeysEq
import Derived.Laws.MakeOwn
import Derived.ProofKit
import Derived.OpenShut
import Derived.Deep.Slices
import Derived.ChangeSame
import Derived.IntWalk
import Derived.DataShut

/-
  A library of my own: functions of the program are carried out symbolically. Part 1: symbolic values, known memory, and what they say of a world.
-/
namespace Go.Sx

/-- Where each named region of memory begins. -/
abbrev Env := Nat → Option Addr

/-- A value of one cell. 'ptr i off': the address 'off' cells behind the beginning of region i; 'rp': cell c of row r there, a row having st cells; 'slc': a slice that begins at row r. -/
inductive SA where
  | v (x : Value)
  | pr (p : Prop) (d : Decidable p)
  | tt
  | ff
  | ptr (i off : Nat)
  | rp (i st r c : Nat)
  | slc (i st r len cap : Nat)
  | map (i : Nat)
  | clo (f : FuncId) (caps : List (Nat × Nat))

def at_ (e : Env) (i off : Nat) : Option Addr := (e i).map (·.add off)

def SA.den (e : Env) : SA → Value
  | .v x => x
  | .pr p d => .bool (@decide p d)
  | .tt => .bool true
  | .ff => .bool false
  | .ptr i off => .pointer (at_ e i off)
  | .rp i st r c => .pointer (at_ e i (r * st + c))
  | .slc i st r len cap => .slice (at_ e i (r * st)) len cap
  | .map i => .map ((e i).map (·.block))
  | .clo f caps => .func (.func f) #[] (caps.map fun c => Value.pointer (at_ e c.1 c.2)).toArray

inductive SV1 where
  | a (x : SA)
  | agg (l : List SA)

def SV1.den (e : Env) : SV1 → Value
  | .a x => x.den e
  | .agg l => .agg (l.map (SA.den e)).toArray

inductive SV where
  | one (x : SV1)
  | tup (l : List SV1)

def SV.den (e : Env) : SV → Value
  | .one x => x.den e
  | .tup l => .tuple (l.map (SV1.den e)).toArray

/-- names below n alone -/
def SA.ok (n : Nat) : SA → Bool
  | .ptr i _ | .rp i _ _ _ | .slc i _ _ _ _ | .map i => Nat.blt i n
  | .clo _ caps => caps.all fun c => Nat.blt c.1 n
  | _ => true
def SV1.ok (n : Nat) : SV1 → Bool
  | .a x => x.ok n
  | .agg l => l.all (SA.ok n)
def SV.ok (n : Nat) : SV → Bool
  | .one x => x.ok n
  | .tup l => l.all (SV1.ok n)

/-- One column of a table: what stands in row r. -/
inductive Col where
  | int (k : IntKind) (g : Nat → Int)
  | bool (g : Nat → Bool)
  | val (g : Nat → Value)

def Col.at_ : Col → Nat → Value
  | .int k g, r => .int k (g r)
  | .bool g, r => .bool (g r)
  | .val g, r => g r

/-- What is known of a region: each cell's value ('flat'), or n rows by their columns. -/
inductive Con where
  | flat (l : List SA)
  | tab (n : Nat) (cols : List Col)
  | mp (es : Array MapEntry) (clock : Nat)

structure Reg where
  rw : Bool
  con : Con

abbrev Mem := List (Option Reg)

def Con.cell (e : Env) : Con → Nat → Option Value
  | .flat l, j => (l[j]?).map (SA.den e)
  | .tab n cols, j => if j / cols.length < n then (cols[j % cols.length]?).map (·.at_ (j / cols.length)) else none
  | .mp .., _ => none
/-- does the region hold anything? -/
def Con.some_ : Con → Prop
  | .flat l => l ≠ []
  | .tab n cols => 0 < n ∧ cols ≠ []
  | .mp .. => True
def Con.ok (n : Nat) : Con → Bool
  | .flat l => l.all (SA.ok n)
  | _ => true
def Mem.ok (m : Mem) : Bool := m.all fun r => match r with | some r => r.con.ok m.length | none => true

/-- A region of memory is as it is known. -/
structure RegOK (e : Env) (w : World) (A : Option Addr) (r : Reg) : Prop where
  cell : ∀ j v, r.con.cell e j = some v → ∃ a, A = some a ∧ w.cell? (a.add j) = some v ∧ (r.rw = true → w.frozen? (a.add j) = false)
  map : ∀ es c, r.con = .mp es c → ∃ a, A = some a ∧ w.heap[a.block]? = some (.map es c)

/-- What is kept from the world w0 on: all blocks that were there, but those that W names. -/
structure Fr (w0 : World) (W : Nat → Prop) (w : World) : Prop where
  os : w.os = w0.os
  tape : w.tape = w0.tape
  output : w.output = w0.output
  size : w0.heap.size ≤ w.heap.size
  block : ∀ b, b < w0.heap.size → ¬ W b → w.heap[b]? = w0.heap[b]?

theorem Fr.refl (w : World) (W : Nat → Prop) : Fr w W w := ⟨rfl, rfl, rfl, Nat.le_refl _, fun _ _ _ => rfl⟩

structure Rel (e : Env) (w0 : World) (W : Nat → Prop) (m : Mem) (w : World) : Prop where
  fr : Fr w0 W w
  reg : ∀ i r, m[i]? = some (some r) → RegOK e w (e i) r
  sep : ∀ i j ri rj a b, i ≠ j → m[i]? = some (some ri) → m[j]? = some (some rj) → ri.rw = true → ri.con.some_ → rj.con.some_ → e i = some a → e j = some b → a.block ≠ b.block
  wr : ∀ i r a, m[i]? = some (some r) → r.rw = true → r.con.some_ → e i = some a → W a.block ∨ w0.heap.size ≤ a.block

theorem add_block (a : Addr) (n : Nat) : (a.add n).block = a.block := by unfold Addr.add; split <;> rfl
theorem add_add (a : Addr) (i j : Nat) : (a.add i).add j = a.add (i + j) := by
  unfold Addr.add
  by_cases hi : i = 0 <;> by_cases hj : j = 0 <;> simp [hi, hj, Nat.add_assoc]
theorem Con.some_of_cell {e : Env} {c : Con} {j : Nat} {v : Value} (h : c.cell e j = some v) : c.some_ := by
  cases c with
  | flat l => intro hl; subst hl; simp [Con.cell] at h
  | tab n cols =>
    simp only [Con.cell] at h
    split at h
    · rename_i hlt
      refine ⟨Nat.lt_of_le_of_lt (Nat.zero_le _) hlt, ?_⟩
      rintro rfl
      simp at h
    · cases h
  | mp es c => trivial

theorem RegOK.lt {e : Env} {w : World} {a : Addr} {r : Reg} (h : RegOK e w (some a) r) (hs : r.con.some_) : a.block < w.heap.size := by
  cases hc : r.con with
  | flat l =>
    rw [hc] at hs
    cases l with
    | nil => exact absurd rfl hs
    | cons x l =>
      obtain ⟨a', ha, hcell, _⟩ := h.cell 0 (x.den e) (by rw [hc]; rfl)
      cases ha
      have := block_lt_of_cell hcell
      rwa [add_block] at this
  | tab n cols =>
    rw [hc] at hs
    obtain ⟨hn, hcl⟩ := hs
    cases cols with
    | nil => exact absurd rfl hcl
    | cons x l =>
      obtain ⟨a', ha, hcell, _⟩ := h.cell 0 (x.at_ 0) (by rw [hc]; simp [Con.cell, hn])
      cases ha
      have := block_lt_of_cell hcell
      rwa [add_block] at this
  | mp es c =>
    obtain ⟨a', ha, hh⟩ := h.map es c hc
    cases ha
    rcases Nat.lt_or_ge a.block w.heap.size with h' | h'
    · exact h'
    · rw [Array.getElem?_eq_none h'] at hh; cases hh

/-! ### Known slots -/

/-- slot number and value, the newest first -/
abbrev Slots := List (Nat × SV)

def Slots.get : Slots → Nat → Option SV
  | [], _ => none
  | (k, v) :: t, i => match Nat.beq k i with | true => some v | false => Slots.get t i

structure St where
  n : Nat
  t : Slots
  m : Mem

def St.ev (S : St) : Operand → Option SV
  | .tmp t => S.t.get t
  | .const v => (match v with
    | .bool true => some (.one (.a .tt))
    | .bool false => some (.one (.a .ff))
    | .agg cs => some (.one (.agg (cs.toList.map .v)))
    | .tuple _ => none
    | v => some (.one (.a (.v v))))
  | .global _ => none
  | .func f => some (.one (.a (.clo f [])))

structure RelT (e : Env) (S : St) (a : Act) : Prop where
  size : a.tmps.size = S.n
  defers : a.defers = []
  get : ∀ i v, S.t.get i = some v → a.tmps[i]? = some (v.den e)

theorem evOk {e : Env} {S : St} {a : Act} (h : RelT e S a) {x : Operand} {v : SV} (hx : S.ev x = some v) : a.eval x = v.den e := by
  cases x with
  | tmp t =>
    have := h.get t v hx
    simp [Act.eval, this]
  | const c =>
    simp only [St.ev] at hx
    split at hx <;> first
      | (cases hx; simp [Act.eval, SV.den, SV1.den, SA.den]; done)
      | (cases hx; simp only [Act.eval, SV.den, SV1.den]; simp [SA.den, Function.comp_def]; done)
      | (cases hx)
  | global g => cases hx
  | func f => cases hx; simp [Act.eval, SV.den, SV1.den, SA.den]

/-- a value is put into a slot -/
def St.put (S : St) (d : Option Tmp) (v : SV) : St :=
  match d with
  | some d => { S with t := (d, v) :: S.t }
  | none => S

/-- the slot is there -/
def St.can (S : St) (d : Option Tmp) : Bool :=
  match d with
  | some d => Nat.blt d S.n
  | none => true

theorem blt_iff {a b : Nat} : Nat.blt a b = true ↔ a < b := by simp [Nat.blt, Nat.lt_iff_add_one_le]

theorem RelT.put {e : Env} {S : St} {a : Act} (h : RelT e S a) {d : Option Tmp} (hd : S.can d = true) {v : SV} {x : Value} (hv : x = v.den e) : RelT e (S.put d v) (a.put d x) := by
  subst hv
  cases d with
  | none => exact h
  | some d =>
    have hlt : d < S.n := blt_iff.1 hd
    refine ⟨by simp [Act.put, St.put, h.size], h.defers, fun i u hi => ?_⟩
    simp only [St.put, Slots.get] at hi
    simp only [Act.put]
    by_cases hdi : d = i
    · subst hdi
      rw [show Nat.beq d d = true from Nat.beq_refl d] at hi
      cases hi
      rw [Array.getElem?_setIfInBounds]
      simp [h.size, hlt]
    · have : Nat.beq d i = false := by
        cases hb : Nat.beq d i with
        | false => rfl
        | true => exact absurd (Nat.eq_of_beq_eq_true hb) hdi
      rw [this] at hi
      rw [Array.getElem?_setIfInBounds_ne hdi]
      exact h.get i u hi

theorem St.put_m (S : St) (d : Option Tmp) (v : SV) : (S.put d v).m = S.m := by cases d <;> rfl
theorem St.put_n (S : St) (d : Option Tmp) (v : SV) : (S.put d v).n = S.n := by cases d <;> rfl

/-- an operation that is not wanted leaves nothing: the slot is forgotten (its value is 'undef') -/
theorem RelT.skip {e : Env} {S : St} {a : Act} (h : RelT e S a) {d : Option Tmp} (hd : S.can d = true) : RelT e (S.put d (.tup [])) (a.put d undef) :=
  h.put hd (by rfl)

end Go.Sx

/-
  Part 2: what an operation does to symbolic values and known memory.
-/
namespace Go.Sx

def Mem.reg (m : Mem) (i : Nat) : Option Reg := match m[i]? with | some (some r) => some r | _ => none

/-- what stands behind a slice's end, up to its capacity -/
structure Tail where
  i : Nat → Nat → Int
  b : Nat → Nat → Bool
  v : Nat → Nat → Value

/-- What an operation comes to. 'ob': what must be shown. -/
inductive R where
  | val (ob : Option Prop) (v : SV)
  | alts (ob : Prop) (l : List (Prop × SV))
  | new (ob : Option Prop) (r : Reg) (v : Nat → SV)
  | wr (ob : Option Prop) (i : Nat) (r : Reg)
  | call (f : FuncId) (args : List SV)
  | app (ob : Prop) (gone : Option Nat) (st len : Nat) (reg : Nat → Tail → Reg)
  | bad

def toSA : Value → SA
  | .bool true => .tt
  | .bool false => .ff
  | v => .v v

def Col.sa : Col → Nat → SA
  | .int k g, r => .v (.int k (g r))
  | .bool g, r => .v (.bool (g r))
  | .val g, r => .v (g r)

/-- k cells at an address -/
def cellsAt (m : Mem) (p : SA) (k : Nat) : Option (Option Prop × List SA) :=
  match p with
  | .ptr i off => (match m.reg i with
    | some ⟨_, .flat l⟩ => (match Nat.ble (off + k) l.length with | true => some (none, (l.drop off).take k) | false => none)
    | _ => none)
  | .rp i st r c => (match m.reg i with
    | some ⟨_, .tab n cols⟩ => (match Nat.beq st cols.length, Nat.ble (c + k) st with
      | true, true => some (some (r < n), ((cols.drop c).take k).map fun q => q.sa r)
      | _, _ => none)
    | _ => none)
  | _ => none

def SA.one : SA → Bool
  | .v x => x.oneCell'
  | _ => true

def kindEq : IntKind → IntKind → Bool
  | .i8, .i8 | .i16, .i16 | .i32, .i32 | .i64, .i64 | .u8, .u8 | .u16, .u16 | .u32, .u32 | .u64, .u64 => true
  | _, _ => false

def Col.set : Col → Nat → SA → Option Col
  | .int k g, r, .v (.int k' n) => match kindEq k k' with | true => some (.int k fun q => if q = r then n else g q) | false => none
  | .bool g, r, .tt => some (.bool fun q => if q = r then true else g q)
  | .bool g, r, .ff => some (.bool fun q => if q = r then false else g q)
  | .bool g, r, .pr p d => some (.bool fun q => if q = r then @decide p d else g q)
  | .bool g, r, .v (.bool b) => some (.bool fun q => if q = r then b else g q)
  | .val g, r, .v x => some (.val fun q => if q = r then x else g q)
  | _, _, _ => none

def setCols (r : Nat) : List Col → List SA → Option (List Col)
  | [], [] => some []
  | q :: qs, x :: xs => (match Col.set q r x, setCols r qs xs with | some q', some qs' => some (q' :: qs') | _, _ => none)
  | _, _ => none

/-- values are stored at an address -/
def setAt (m : Mem) (p : SA) (xs : List SA) : Option (Option Prop × Nat × Reg) :=
  match p with
  | .ptr i off => (match m.reg i with
    | some ⟨true, .flat l⟩ => (match Nat.ble (off + xs.length) l.length with
      | true => some (none, i, ⟨true, .flat (l.take off ++ xs ++ l.drop (off + xs.length))⟩)
      | false => none)
    | _ => none)
  | .rp i st r c => (match m.reg i with
    | some ⟨true, .tab n cols⟩ => (match Nat.beq st cols.length, Nat.ble (c + xs.length) st, setCols r ((cols.drop c).take xs.length) xs with
      | true, true, some new => some (some (r < n), i, ⟨true, .tab n (cols.take c ++ new ++ cols.drop (c + xs.length))⟩)
      | _, _, _ => none)
    | _ => none)
  | _ => none

def isAgg' : TypeDesc → Bool
  | .struct _ | .array _ _ => true
  | _ => false

def SV1.cells : SV1 → List SA
  | .a x => [x]
  | .agg l => l

/-- does the address lead somewhere (so that it is not nil)? -/
def leads (m : Mem) : SA → Bool
  | .ptr i _ | .rp i _ _ _ => (match m.reg i with
    | some ⟨_, .flat (_ :: _)⟩ => true
    | some ⟨_, .mp ..⟩ => true
    | _ => false)
  | .v (.pointer (some _)) => true
  | .clo .. => true
  | _ => false

/-- under which condition an address is not nil -/
def ptsOb (m : Mem) (p : SA) : Option (Option Prop) :=
  match leads m p with
  | true => some none
  | false => (match p with
    | .rp i _ r _ => (match m.reg i with | some ⟨_, .tab n (_ :: _)⟩ => some (some (r < n)) | _ => none)
    | _ => none)

def andO : Option Prop → Prop → Prop
  | none, p => p
  | some q, p => q ∧ p

section
variable (P : Program)

def rdLoad (m : Mem) (t : TypeId) (p : SA) : R :=
  match P.underlying t, P.info? t with
  | some d, some i => (match isAgg' d, Nat.blt 0 i.size with
    | true, true => (match cellsAt m p i.size with | some (ob, l) => .val ob (.one (.agg l)) | none => .bad)
    | false, _ => (match cellsAt m p 1 with | some (ob, [x]) => .val ob (.one (.a x)) | _ => .bad)
    | _, _ => .bad)
  | _, _ => .bad

def rdStore (m : Mem) (t : TypeId) (p : SA) (x : SV1) : R :=
  match P.info? t with
  | some i => (match Nat.beq i.size x.cells.length, Nat.blt 0 i.size, x.cells.all SA.one, setAt m p x.cells with
    | true, true, true, some (ob, j, r) => .wr ob j r
    | _, _, _, _ => .bad)
  | none => .bad

def rdField (m : Mem) (t : TypeId) (p : SA) (f : Nat) : R :=
  match P.underlying t with
  | some (.struct fs) => (match fs[f]? with
    | some fl => (match P.info? fl.type with
      | some i => (match Nat.beq i.size 0, ptsOb m p, p with
        | false, some ob, .ptr j off => .val ob (.one (.a (.ptr j (off + fl.offset))))
        | false, some ob, .rp j st r c => .val ob (.one (.a (.rp j st r (c + fl.offset))))
        | _, _, _ => .bad)
      | none => .bad)
    | none => .bad)
  | _ => .bad

/-- alternatives for a number that is an index of n places -/
def places (ob : Option Prop) (x : Int) (n : Nat) (f : Nat → SV) : R := .alts (andO ob (0 ≤ x ∧ x < n)) ((List.range n).map fun (j : Nat) => (x = (j : Int), f j))

/-- is it a constant, and a place? -/
def constPlace (ix : Operand) (n : Nat) : Option Nat :=
  match ix with
  | .const (.int _ (.ofNat j)) => (match Nat.blt j n with | true => some j | false => none)
  | _ => none

def SA.elemAt (sz : Nat) : SA → Nat → Option SA
  | .ptr i off, j => some (.ptr i (off + j * sz))
  | .rp i st r c, j => some (.rp i st r (c + j * sz))
  | _, _ => none

def rdIndexAddr (m : Mem) (t : TypeId) (x : SA) (ix : Operand) (iv : SA) : R :=
  match P.underlying t, iv with
  | some (.slice el), .v (.int _ n) => (match P.info? el, x with
    | some inf, .slc i st r len _ => (match m.reg i with
      | some ⟨_, .tab N cols⟩ => (match Nat.beq st inf.size, Nat.beq st cols.length, Nat.beq st 0 with
        | true, true, false => .val (some (0 ≤ n ∧ n < len ∧ r + n.toNat < N)) (.one (.a (.rp i st (r + n.toNat) 0)))
        | _, _, _ => .bad)
      | _ => .bad)
    | _, _ => .bad)
  | some (.array len el), .v (.int _ n) => (match P.info? el, Nat.ble 2 len with
    | some inf, true => (match x with
      | .ptr _ _ | .rp _ _ _ _ => (match ptsOb m x, constPlace ix len with
        | some ob, some j => (match SA.elemAt inf.size x j with | some p => .val ob (.one (.a p)) | none => .bad)
        | some ob, none => places ob n len fun j => match SA.elemAt inf.size x j with | some p => .one (.a p) | none => .tup []
        | none, _ => .bad)
      | _ => .bad)
    | _, _ => .bad)
  | _, _ => .bad

/-- a part of an aggregate's cells -/
def partOf (t : TypeId) (cs : List SA) (off : Nat) : Option SV1 :=
  match P.underlying t, P.info? t with
  | some d, some i => (match isAgg' d with
    | true => (match Nat.ble (off + i.size) cs.length with | true => some (.agg ((cs.drop off).take i.size)) | false => none)
    | false => (match cs[off]? with | some x => some (.a x) | none => none))
  | _, _ => none

def rdPart (t : TypeId) (x : SV1) (f : Nat) : R :=
  match P.underlying t, x with
  | some (.struct fs), .agg cs => (match fs[f]? with
    | some fl => (match partOf P fl.type cs fl.offset with | some v => .val none (.one v) | none => .bad)
    | none => .bad)
  | _, _ => .bad

def rdIndex (t : TypeId) (x : SV1) (ix : Operand) (iv : SA) : R :=
  match P.underlying t, x, iv with
  | some (.array len el), .agg cs, .v (.int _ n) => (match P.info? el with
    | some inf => (match constPlace ix len with
      | some j => (match partOf P el cs (j * inf.size) with | some v => .val none (.one v) | none => .bad)
      | none => (match (List.range len).all fun j => (partOf P el cs (j * inf.size)).isSome with
        | true => places none n len fun j => match partOf P el cs (j * inf.size) with | some v => .one v | none => .tup []
        | false => .bad))
    | none => .bad)
  | _, _, _ => .bad

def boolOf : SA → Option Bool
  | .tt => some true
  | .ff => some false
  | .pr p d => some (@decide p d)
  | .v (.bool b) => some b
  | _ => none

/-- a constant that is not 0 -/
def constNot0 : Operand → Bool
  | .const (.int _ (.ofNat (_ + 1))) => true
  | .const (.int _ (.negSucc _)) => true
  | _ => false
def constNat : Operand → Bool
  | .const (.int _ (.ofNat _)) => true
  | _ => false

def int_ (k : IntKind) (n : Int) : SV := .one (.a (.v (.int k n)))
def pr_ (p : Prop) [d : Decidable p] : SV := .one (.a (.pr p d))

def eqFs (R : TypeId → SV1 → SV1 → Option Bool) (xs ys : List SA) : List Field → Option Bool
  | [] => some true
  | f :: l => (match f.name == "_", partOf P f.type xs f.offset, partOf P f.type ys f.offset with
    | false, some x, some y => (match R f.type x y, eqFs R xs ys l with | some a, some b => some (a && b) | _, _ => none)
    | _, _, _ => none)
def eqIs (R : TypeId → SV1 → SV1 → Option Bool) (el : TypeId) (n : Nat) (xs ys : List SA) : List Nat → Option Bool
  | [] => some true
  | i :: l => (match partOf P el xs (i * n), partOf P el ys (i * n) with
    | some x, some y => (match R el x y, eqIs R el n xs ys l with | some a, some b => some (a && b) | _, _ => none)
    | _, _ => none)
/-- '==' at type t -/
def eqV : Nat → TypeId → SV1 → SV1 → Option Bool
  | 0, _, _, _ => none
  | d + 1, t, x, y => (match P.underlying t, x, y with
    | some (.int _), .a (.v (.int k a)), .a (.v (.int k' b)) => (match kindEq k k' with | true => some (decide (a = b)) | false => none)
    | some .bool, .a x, .a y => (match boolOf x, boolOf y with | some a, some b => some (a == b) | _, _ => none)
    | some .string, .a (.v (.string a)), .a (.v (.string b)) => some (a.toList == b.toList)
    | some (.struct fs), .agg xs, .agg ys => eqFs P (eqV d) xs ys fs.toList
    | some (.array n el), .agg xs, .agg ys => (match P.info? el with | some i => eqIs P (eqV d) el i.size xs ys (List.range n) | none => none)
    | _, _, _ => none)
def stoodOK : Nat → TypeId → Bool
  | 0, _ => false
  | d + 1, t => (match P.underlying t with
    | some (.struct fs) => !P.stoodInHeld t && fs.toList.all fun f => stoodOK d f.type
    | some (.array _ el) => stoodOK d el
    | _ => true)
/-- what is to be shown of a type whose values are compared: once for each type -/
def EqOK (t : TypeId) : Prop := (!P.eqGuardType P.depth t && stoodOK P 8 t) = true

def rdInt (op : BinOp) (y : Operand) (k : IntKind) (a b : Int) : R :=
  match op with
  | .add => .val none (int_ k (k.wrap (a + b)))
  | .sub => .val none (int_ k (k.wrap (a - b)))
  | .mul => .val none (int_ k (k.wrap (a * b)))
  | .quo => .val (match constNot0 y with | true => none | false => some (b ≠ 0)) (int_ k (k.wrap (a.tdiv b)))
  | .rem => .val (match constNot0 y with | true => none | false => some (b ≠ 0)) (int_ k (a.tmod b))
  | .and => .val none (int_ k (bits .and k a b))
  | .or => .val none (int_ k (bits .or k a b))
  | .xor => .val none (int_ k (bits .xor k a b))
  | .andNot => .val none (int_ k (bits .andNot k a b))
  | .eql => .val none (pr_ (a = b))
  | .neq => .val none (pr_ (¬ a = b))
  | .lss => .val none (pr_ (a < b))
  | .leq => .val none (pr_ (a ≤ b))
  | .gtr => .val none (pr_ (b < a))
  | .geq => .val none (pr_ (b ≤ a))
  | _ => .bad

def rdBin (m : Mem) (op : BinOp) (t : TypeId) (y : Operand) (xv yv : SV1) : R :=
  match op, xv, yv with
  | .shl, .a (.v (.int k a)), .a (.v (.int _ b)) => .val (match constNat y with | true => none | false => some (0 ≤ b)) (int_ k (k.wrap (a * 2 ^ min b.toNat k.bits)))
  | .shr, .a (.v (.int k a)), .a (.v (.int _ b)) => .val (match constNat y with | true => none | false => some (0 ≤ b)) (int_ k (a.fdiv (2 ^ min b.toNat k.bits)))
  | op, .a (.v (.int k a)), .a (.v (.int k' b)) => (match kindEq k k' with | true => rdInt op y k a b | false => .bad)
  | .eql, .a x, .a (.v (.pointer none)) => (match x, P.underlying t with
    | .v (.pointer none), some (.pointer _) => .val none (.one (.a .tt))
    | x, some (.pointer _) => (match leads m x, x with
      | true, .ptr _ _ | true, .rp _ _ _ _ | true, .v (.pointer _) => .val none (.one (.a .ff))
      | _, _ => .bad)
    | _, _ => .bad)
  | .neq, .a x, .a (.v (.pointer none)) => (match x, P.underlying t with
    | .v (.pointer none), some (.pointer _) => .val none (.one (.a .ff))
    | x, some (.pointer _) => (match leads m x, x with
      | true, .ptr _ _ | true, .rp _ _ _ _ | true, .v (.pointer _) => .val none (.one (.a .tt))
      | _, _ => .bad)
    | _, _ => .bad)
  | .eql, .agg xs, .agg ys => (match eqV P 8 t (.agg xs) (.agg ys) with | some b => .val (some (EqOK P t)) (.one (.a (.v (.bool b)))) | none => .bad)
  | .neq, .agg xs, .agg ys => (match eqV P 8 t (.agg xs) (.agg ys) with | some b => .val (some (EqOK P t)) (.one (.a (.v (.bool (!b))))) | none => .bad)
  | .eql, .a x, .a y => (match x, y with
    | .v (.string a), .v (.string b) => .val none (.one (.a (.v (.bool (a.toList == b.toList)))))
    | x, y => (match boolOf x, boolOf y, P.underlying t with | some a, some b, some .bool => .val none (.one (.a (.v (.bool (a == b))))) | _, _, _ => .bad))
  | .neq, .a x, .a y => (match x, y with
    | .v (.string a), .v (.string b) => .val none (.one (.a (.v (.bool (!(a.toList == b.toList))))))
    | x, y => (match boolOf x, boolOf y, P.underlying t with | some a, some b, some .bool => .val none (.one (.a (.v (.bool (!(a == b)))))) | _, _, _ => .bad))
  | _, _, _ => .bad

def rdUn (op : UnOp) (x : SA) : R :=
  match op, x with
  | .neg, .v (.int k n) => .val none (int_ k (k.wrap (0 - n)))
  | .xor, .v (.int k n) => .val none (int_ k (bits .xor k (if k.signed then -1 else k.max) n))
  | .not, .tt => .val none (.one (.a .ff))
  | .not, .ff => .val none (.one (.a .tt))
  | .not, .pr p d => .val none (.one (.a (.pr (¬ p) (@instDecidableNot p d))))
  | .not, .v (.bool b) => .val none (.one (.a (.v (.bool (!b)))))
  | _, _ => .bad

def rdConv (s d : TypeId) (x : SV1) : R :=
  match P.underlying s, P.underlying d, x with
  | some _, some (.int k), .a (.v (.int _ n)) => .val none (int_ k (k.wrap n))
  | _, _, _ => .bad

/-- parts put into cells -/
def fillL (place : Nat → Option (Nat × Nat)) (cells : List SA) : List (Nat × SV1) → Option (List SA)
  | [] => some cells
  | (i, v) :: rest => (match place i with
    | none => none
    | some (off, size) => (match Nat.beq v.cells.length size, Nat.ble (off + v.cells.length) cells.length with
      | true, true => fillL place (cells.take off ++ v.cells ++ cells.drop (off + v.cells.length)) rest
      | _, _ => none))

def evs (S : St) : List (Nat × Operand) → Option (List (Nat × SV1))
  | [] => some []
  | (i, x) :: l => (match S.ev x, evs S l with | some (.one v), some r => (match v.cells.all SA.one with | true => some ((i, v) :: r) | false => none) | _, _ => none)

def placesOf : List Field → Option (List (Nat × Nat))
  | [] => some []
  | f :: l => (match P.info? f.type, placesOf l with | some i, some r => some ((f.offset, i.size) :: r) | _, _ => none)

def rdBuild (t : TypeId) (parts : List (Nat × SV1)) : R :=
  match P.info? t, P.underlying t with
  | some i, some (.struct fs) => (match i.zero, placesOf P fs.toList with
    | some z, some ps => (match fillL (fun j => ps[j]?) (z.cells.toList.map toSA) parts with | some cs => .val none (.one (.agg cs)) | none => .bad)
    | _, _ => .bad)
  | some i, some (.array _ el) => (match i.zero, P.info? el with
    | some z, some inf => (match fillL (fun j => some (j * inf.size, inf.size)) (z.cells.toList.map toSA) parts with | some cs => .val none (.one (.agg cs)) | none => .bad)
    | _, _ => .bad)
  | _, _ => .bad

/-- cells c, c + st, .. as one column -/
def every (st : Nat) : Nat → List SA → List SA
  | 0, _ => []
  | n + 1, l => (match l with | [] => [] | x :: _ => x :: every st n (l.drop st))

def intsOf : List SA → Option (IntKind × List Int)
  | [.v (.int k n)] => some (k, [n])
  | .v (.int k n) :: l => (match intsOf l with | some (k', r) => (match kindEq k k' with | true => some (k, n :: r) | false => none) | none => none)
  | _ => none
def boolsOf : List SA → Option (List Bool)
  | [] => some []
  | x :: l => (match boolOf x, boolsOf l with | some b, some r => some (b :: r) | _, _ => none)
def colOf (l : List SA) : Option Col :=
  match intsOf l with
  | some (k, ns) => some (.int k fun r => ns.getD r 0)
  | none => (match boolsOf l with | some bs => some (.bool fun r => bs.getD r false) | none => none)

def colsOf (st n : Nat) (l : List SA) : Nat → Option (List Col)
  | 0 => some []
  | c + 1 => (match colOf (every st n (l.drop (st - (c + 1)))), colsOf st n l c with | some q, some r => some (q :: r) | _, _ => none)

/-- known cells as rows of st cells, if they are numbers and bools -/
def asRows (st n : Nat) (l : List SA) : Con :=
  match colsOf st n l st with
  | some cols => .tab n cols
  | none => .flat l

def repl (n : Nat) (z : List SA) : List SA :=
  match n with
  | 0 => []
  | n + 1 => z ++ repl n z

def rdBuildSlice (t : TypeId) (len : Nat) (parts : List (Nat × SV1)) : R :=
  match P.underlying t with
  | some (.slice el) => (match P.info? el with
    | some inf => (match inf.zero with
      | some z => (match Nat.ble (len * inf.size) 16777216, Nat.beq z.cells.size inf.size, Nat.beq inf.size 0, fillL (fun j => some (j * inf.size, inf.size)) (repl len (z.cells.toList.map toSA)) parts with
        | true, true, false, some cs => .new none ⟨true, asRows inf.size len cs⟩ fun j => .one (.a (.slc j inf.size 0 len len))
        | _, _, _, _ => .bad)
      | none => .bad)
    | none => .bad)
  | _ => .bad

def rdAlloc (t : TypeId) : R :=
  match P.info? t with
  | some i => (match i.zero with
    | some z => .new none ⟨true, .flat (z.cells.toList.map toSA)⟩ fun j => .one (.a (.ptr j 0))
    | none => .bad)
  | none => .bad

def capsOf (S : St) : List Operand → Option (List (Nat × Nat))
  | [] => some []
  | x :: l => (match S.ev x, capsOf S l with | some (.one (.a (.ptr i off))), some r => some ((i, off) :: r) | _, _ => none)

def natOf (S : St) (x : Option Operand) (dflt : Nat) : Option (Nat × Option Int) :=
  match x with
  | none => some (dflt, none)
  | some x => (match S.ev x with | some (.one (.a (.v (.int _ n)))) => some (n.toNat, some n) | _ => none)

def inB (o : Option Int) (b : Nat) : Prop :=
  match o with
  | some n => 0 ≤ n ∧ n ≤ (b : Int)
  | none => True

/-- 'x[lo:hi]' of a slice -/
def rdSlice (S : St) (t : TypeId) (x : SA) (lo hi : Option Operand) : R :=
  match P.underlying t, x with
  | some (.slice el), .slc i st r len cap => (match P.info? el, natOf S lo 0, natOf S hi len with
    | some inf, some (l, ln), some (h, hn) => (match Nat.beq st inf.size with
      | true => .val (some (inB hn cap ∧ inB ln h))
          (.one (.a (.slc i st (if cap = l then r else r + l) (h - l) (cap - l))))
      | false => .bad)
    | _, _, _ => .bad)
  | some (.array n el), .ptr i off => (match P.info? el, natOf S lo 0, natOf S hi n with
    | some inf, some (l, ln), some (h, hn) => (match Nat.beq inf.size 1, leads S.m (.ptr i off) with
      | true, true => .val (some (inB hn n ∧ inB ln h))
          (.one (.a (.slc i 1 (if n = l then off else off + l) (h - l) (n - l))))
      | _, _ => .bad)
    | _, _, _ => .bad)
  | _, _ => .bad

def rdLen (m : Mem) (t : TypeId) (x : SV1) : R :=
  match P.underlying t, x with
  | some (.slice _), .a (.slc _ _ _ len _) => .val none (int_ .i64 len)
  | some (.slice _), .a (.v (.slice _ n _)) => .val none (int_ .i64 n)
  | some .string, .a (.v (.string s)) => .val none (int_ .i64 s.size)
  | some (.array n _), _ => .val none (int_ .i64 n)
  | some (.map _ _), .a (.map i) => (match m.reg i with | some ⟨_, .mp es _⟩ => .val none (int_ .i64 es.size) | _ => .bad)
  | _, _ => .bad

def joinCol (len k r' : Nat) (t : Tail) (c : Nat) : Col → Col → Col
  | .int a g, .int _ g' => .int a fun r => if r < len then g r else if r < len + k then g' (r' + (r - len)) else t.i c r
  | .bool g, .bool g' => .bool fun r => if r < len then g r else if r < len + k then g' (r' + (r - len)) else t.b c r
  | .val g, .val g' => .val fun r => if r < len then g r else if r < len + k then g' (r' + (r - len)) else t.v c r
  | q, _ => q
def joinCols (len k r' : Nat) (t : Tail) : Nat → List Col → List Col → List Col
  | c, q :: qs, p :: ps => joinCol len k r' t c q p :: joinCols len k r' t (c + 1) qs ps
  | _, _, _ => []
/-- columns alike, and fit for the cells of a zero value -/
def alikeCols : List Col → List Col → List Value → Bool
  | [], [], [] => true
  | .int a _ :: qs, .int b _ :: ps, .int c _ :: zs => kindEq a b && kindEq a c && alikeCols qs ps zs
  | .bool _ :: qs, .bool _ :: ps, .bool _ :: zs => alikeCols qs ps zs
  | _, _, _ => false

/-- 'append(x, y...)'. What x had is not known any more but by the slice that comes back. -/
def rdAppend (m : Mem) (t : TypeId) (x y : SA) : R :=
  match P.underlying t, y with
  | some (.slice el), .slc j st' r' k _ => (match P.info? el, m.reg j with
    | some inf, some ⟨_, .tab N' cols'⟩ => (match inf.zero, Nat.beq st' inf.size, Nat.beq cols'.length st', Nat.beq st' 0 with
      | some z, true, true, false => (match x with
        | .v (.slice none 0 0) => (match alikeCols cols' cols' z.cells.toList with
          | true => .app (r' + k ≤ N' ∧ k * inf.bytes ≤ 140737488355328 ∧ k ≤ 9223372036854775807) none st' k fun cap t => ⟨true, .tab cap (joinCols 0 k r' t 0 cols' cols')⟩
          | false => .bad)
        | .slc i st r len cap => (match m.reg i, Nat.beq st st', Nat.beq r 0, Nat.beq i j with
          | some ⟨true, .tab N cols⟩, true, true, false => (match alikeCols cols cols' z.cells.toList with
            | true => .app (len ≤ cap ∧ cap ≤ N ∧ cap ≤ 9223372036854775807 ∧ r' + k ≤ N' ∧ (len + k) * inf.bytes ≤ 140737488355328 ∧ len + k ≤ 9223372036854775807) (some i) st (len + k) fun cap t => ⟨true, .tab cap (joinCols len k r' t 0 cols cols')⟩
            | false => .bad)
          | _, _, _, _ => .bad)
        | _ => .bad)
      | _, _, _, _ => .bad)
    | _, _ => .bad)
  | _, _ => .bad

def zeroCol : Value → Col
  | .int k n => .int k fun _ => n
  | .bool b => .bool fun _ => b
  | v => .val fun _ => v

def rdMake (t : TypeId) (l c : Int) : R :=
  match P.underlying t with
  | some (.slice el) => (match P.info? el with
    | some inf => (match inf.zero with
      | some z => (match Nat.beq z.cells.size inf.size, Nat.beq inf.size 0 with
        | true, false => .new (some (0 ≤ l ∧ l ≤ c ∧ c ≤ 9223372036854775807 ∧ c * inf.bytes ≤ 281474976710656)) ⟨true, .tab c.toNat (z.cells.toList.map zeroCol)⟩ fun j => .one (.a (.slc j inf.size 0 l.toNat c.toNat))
        | _, _ => .bad)
      | none => .bad)
    | none => .bad)
  | _ => .bad

def rdOp (S : St) (o : Oper) : R :=
  match o.op with
  | .move x | .assign x => (match S.ev x with | some v => .val none v | none => .bad)
  | .nilCheck x => (match S.ev x with
    | some (.one (.a p)) => (match ptsOb S.m p with | some ob => .val ob (.one (.a p)) | none => .bad)
    | _ => .bad)
  | .fieldAddr t x f => (match S.ev x with | some (.one (.a p)) => rdField P S.m t p f | _ => .bad)
  | .indexAddr t x ix => (match S.ev x, S.ev ix with | some (.one (.a p)), some (.one (.a iv)) => rdIndexAddr P S.m t p ix iv | _, _ => .bad)
  | .load t x => (match S.ev x with | some (.one (.a p)) => rdLoad P S.m t p | _ => .bad)
  | .store t x y => (match S.ev x, S.ev y with | some (.one (.a p)), some (.one v) => rdStore P S.m t p v | _, _ => .bad)
  | .field t x f => (match S.ev x with | some (.one v) => rdPart P t v f | _ => .bad)
  | .index t x ix => (match S.ev x, S.ev ix with | some (.one v), some (.one (.a iv)) => rdIndex P t v ix iv | _, _ => .bad)
  | .extract x i => (match S.ev x with | some (.tup l) => (match l[i]? with | some v => .val none (.one v) | none => .bad) | _ => .bad)
  | .binOp op t x y _ => (match S.ev x, S.ev y with | some (.one xv), some (.one yv) => rdBin P S.m op t y xv yv | _, _ => .bad)
  | .unOp op _ x => (match S.ev x with | some (.one (.a v)) => rdUn op v | _ => .bad)
  | .convert s d x => (match S.ev x with | some (.one v) => rdConv P s d v | _ => .bad)
  | .build t parts => (match evs S parts.toList with | some l => rdBuild P t l | none => .bad)
  | .buildSlice t len parts => (match evs S parts.toList with | some l => rdBuildSlice P t len l | none => .bad)
  | .alloc t => rdAlloc P t
  | .box _ x => (match S.ev x with
    | some (.one v) => (match v.cells.all SA.one with
      | true => .new none ⟨true, .flat v.cells⟩ fun j => .one (.a (.ptr j 0))
      | false => .bad)
    | _ => .bad)
  | .makeFunc (.func f) first caps => (match first.toList, capsOf S caps.toList with | [], some l => .val none (.one (.a (.clo f l))) | _, _ => .bad)
  | .slice t x lo hi none => (match S.ev x with | some (.one (.a v)) => rdSlice P S t v lo hi | _ => .bad)
  | .call { callee := .builtin .len, args, argTypes } => (match args.toList, argTypes.toList with
    | [x], [t] => (match S.ev x with | some (.one v) => rdLen P S.m t v | _ => .bad)
    | _, _ => .bad)
  | .call { callee := .builtin .min, args, .. } => (match args.toList with
    | [x, y] => (match S.ev x, S.ev y with | some (.one (.a (.v (.int k a)))), some (.one (.a (.v (.int _ b)))) => .val none (int_ k (if b < a then b else a)) | _, _ => .bad)
    | _ => .bad)
  | .call { callee := .builtin .max, args, .. } => (match args.toList with
    | [x, y] => (match S.ev x, S.ev y with | some (.one (.a (.v (.int k a)))), some (.one (.a (.v (.int _ b)))) => .val none (int_ k (if a < b then b else a)) | _, _ => .bad)
    | _ => .bad)
  | .call { callee := .builtin .append, args, argTypes } => (match args.toList, argTypes.toList with
    | [x, y], [t, u] => (match S.ev x, S.ev y, Nat.beq t u with | some (.one (.a x)), some (.one (.a y)), true => rdAppend P S.m t x y | _, _, _ => .bad)
    | _, _ => .bad)
  | .makeSlice t l c => (match S.ev l, S.ev c with | some (.one (.a (.v (.int _ l)))), some (.one (.a (.v (.int _ c)))) => rdMake P t l c | _, _ => .bad)
  | _ => .bad

end
end Go.Sx

/-
  Part 3: what 'rdOp' says is what the operation does.
-/
namespace Go.Sx

def obp : Option Prop → Prop
  | none => True
  | some p => p

section
variable {P : Program} {e : Env} {w0 : World} {W : Nat → Prop} {m : Mem} {w : World}

theorem run_typeInfo {t : TypeId} {i : TypeInfo} (h : P.info? t = some i) (w : World) : (typeInfo t).run P w = .ok i w := by
  simp [typeInfo, h]
theorem run_sizeOf {t : TypeId} {i : TypeInfo} (h : P.info? t = some i) (w : World) : (sizeOf t).run P w = .ok i.size w := by
  simp [sizeOf, run_typeInfo h]
theorem run_isAgg {t : TypeId} {d : TypeDesc} (h : P.underlying t = some d) (w : World) : (isAgg t).run P w = .ok (isAgg' d) w := by
  simp only [isAgg, Sem.run_bind, run_underlying h, Result.andThen_ok]
  cases d <;> rfl
theorem run_zero {t : TypeId} {i : TypeInfo} {z : Value} (h : P.info? t = some i) (hz : i.zero = some z) (w : World) : (zeroValue t).run P w = .ok z w := by
  simp [zeroValue, run_typeInfo h, hz]

theorem reg_of {i : Nat} {r : Reg} (h : m.reg i = some r) : m[i]? = some (some r) := by
  unfold Mem.reg at h
  split at h
  · rename_i r' hr; cases h; exact hr
  · cases h

theorem Nat.ble_iff {a b : Nat} : Nat.ble a b = true ↔ a ≤ b := by simp
theorem Nat.beq_iff {a b : Nat} : Nat.beq a b = true ↔ a = b := by simp [Nat.beq_eq]

theorem col_sa (q : Col) (r : Nat) (e : Env) : (q.sa r).den e = q.at_ r := by cases q <;> rfl

theorem tab_cell {n : Nat} {cols : List Col} {r c : Nat} {q : Col} (hr : r < n) (hq : cols[c]? = some q) : (Con.tab n cols).cell e (r * cols.length + c) = some (q.at_ r) := by
  have hc : c < cols.length := (List.getElem?_eq_some_iff.1 hq).1
  have h1 : (r * cols.length + c) / cols.length = r := by
    rw [Nat.mul_comm, Nat.mul_add_div (by omega), Nat.div_eq_of_lt hc]; rfl
  have h2 : (r * cols.length + c) % cols.length = c := by
    rw [Nat.mul_comm, Nat.mul_add_mod, Nat.mod_eq_of_lt hc]
  simp only [Con.cell, h1, h2, if_pos hr, hq, Option.map_some]

theorem at_some {i off : Nat} {a : Addr} (h : e i = some a) : at_ e i off = some (a.add off) := by simp [at_, h]

/-- k cells at an address, read -/
theorem cellsAt_ok (h : Rel e w0 W m w) {p : SA} {k : Nat} {ob : Option Prop} {l : List SA} (hc : cellsAt m p k = some (ob, l)) (ho : obp ob) (hk : 0 < k) :
    l.length = k ∧ ∃ A, p.den e = .pointer (some A) ∧ ∀ j x, l[j]? = some x → w.cell? (A.add j) = some (x.den e) := by
  unfold cellsAt at hc
  split at hc
  · rename_i i off
    split at hc
    · rename_i rw l0 hreg
      split at hc
      · rename_i hle
        cases hc
        have hle := Nat.ble_iff.1 hle
        have hR := h.reg _ _ (reg_of hreg)
        have hlen : ((l0.drop off).take k).length = k := by simp; omega
        refine ⟨hlen, ?_⟩
        have h0 : off < l0.length := by omega
        obtain ⟨a, ha, _⟩ := hR.cell off ((l0[off]).den e) (by simp [Con.cell, h0])
        refine ⟨a.add off, by simp [SA.den, at_some ha], fun j x hx => ?_⟩
        have hj : j < k := by rw [← hlen]; exact (List.getElem?_eq_some_iff.1 hx).1
        rw [List.getElem?_take, if_pos hj, List.getElem?_drop] at hx
        obtain ⟨a', ha', hcell, _⟩ := hR.cell (off + j) (x.den e) (by simp [Con.cell, hx])
        rw [ha] at ha'; cases ha'
        rw [add_add]; exact hcell
      · cases hc
    · cases hc
  · rename_i i st r c
    split at hc
    · rename_i rw n cols hreg
      split at hc
      · rename_i hst hle
        cases hc
        have hst := Nat.beq_iff.1 hst
        have hle := Nat.ble_iff.1 hle
        subst hst
        have hR := h.reg _ _ (reg_of hreg)
        have hr : r < n := ho
        have hlen : (((cols.drop c).take k).map fun q => q.sa r).length = k := by simp; omega
        refine ⟨hlen, ?_⟩
        have h0 : c < cols.length := by omega
        obtain ⟨a, ha, _⟩ := hR.cell (r * cols.length + c) _ (tab_cell hr (List.getElem?_eq_getElem h0))
        refine ⟨a.add (r * cols.length + c), by simp [SA.den, at_some ha], fun j x hx => ?_⟩
        have hj : j < k := by rw [← hlen]; exact (List.getElem?_eq_some_iff.1 hx).1
        rw [List.getElem?_map, List.getElem?_take, if_pos hj, List.getElem?_drop] at hx
        cases hq : cols[c + j]? with
        | none => rw [hq] at hx; cases hx
        | some q =>
          rw [hq] at hx
          cases hx
          obtain ⟨a', ha', hcell, _⟩ := hR.cell (r * cols.length + (c + j)) _ (tab_cell hr hq)
          rw [ha] at ha'; cases ha'
          rw [add_add, Nat.add_assoc, col_sa]; exact hcell
      · cases hc
    · cases hc
  · cases hc

theorem rdLoad_ok (h : Rel e w0 W m w) {t : TypeId} {p : SA} {ob : Option Prop} {v : SV} (hr : rdLoad P m t p = .val ob v) (ho : obp ob) : (Instr.loadAt t (p.den e)).run P w = .ok (v.den e) w := by
  unfold rdLoad at hr
  split at hr
  · rename_i d i hd hi
    split at hr
    · rename_i hagg hpos
      split at hr
      · rename_i ob' l hc
        cases hr
        have h0 : 0 < i.size := blt_iff.1 hpos
        obtain ⟨hlen, A, hA, hcell⟩ := cellsAt_ok h hc ho h0
        rw [hA]
        have hl := run_loadCells_list (P := P) (w := w) A (l.map (SA.den e)) (fun j u hu => by
          rw [List.getElem?_map] at hu
          cases hx : l[j]? with
          | none => rw [hx] at hu; cases hu
          | some x => rw [hx] at hu; cases hu; exact hcell j x hx)
        simp only [List.length_map, hlen] at hl
        simp [Instr.loadAt, Instr.sureAddr, loadVar, run_isAgg hd, hagg, run_sizeOf hi, hl, SV.den, SV1.den]
      · cases hr
    · rename_i hagg
      split at hr
      · rename_i ob' x hc
        cases hr
        obtain ⟨hlen, A, hA, hcell⟩ := cellsAt_ok h hc ho (by omega)
        have := hcell 0 x rfl
        rw [hA]
        have hz : A.add 0 = A := by simp [Addr.add]
        rw [hz] at this
        simp [Instr.loadAt, Instr.sureAddr, loadVar, run_isAgg hd, hagg, this, SV.den, SV1.den]
      · cases hr
    · cases hr
  · cases hr

/-! ### A store -/

theorem RegOK.keep {A : Option Addr} {r : Reg} {w' : World} (h : RegOK e w A r) (hb : ∀ a, A = some a → r.con.some_ → w'.heap[a.block]? = w.heap[a.block]?) : RegOK e w' A r := by
  refine ⟨fun j v hv => ?_, fun es c hm => ?_⟩
  · obtain ⟨a, ha, hcell, hf⟩ := h.cell j v hv
    have hb := hb a ha (Con.some_of_cell hv)
    refine ⟨a, ha, ?_, fun hrw => ?_⟩
    · rw [World.cell?_of_block (w := w) (by rw [add_block]; exact hb)]; exact hcell
    · rw [World.frozen?_of_block (w := w) (by rw [add_block]; exact hb)]; exact hf hrw
  · obtain ⟨a, ha, hh⟩ := h.map es c hm
    exact ⟨a, ha, (hb a ha (by rw [hm]; trivial)).trans hh⟩

theorem add_ne {a : Addr} (hs : a.spot = none) {i j : Nat} (h : i ≠ j) : a.add i ≠ a.add j := by
  intro hh
  have := congrArg Addr.off hh
  unfold Addr.add at this
  by_cases hi : i = 0 <;> by_cases hj : j = 0 <;> simp [hi, hj] at this <;> omega

theorem storeCells_run {A : Addr} (hs : A.spot = none) : ∀ (vs : List Value) (i : Nat) (w : World), (∀ v ∈ vs, v.oneCell' = true) →
    (∀ j, j < vs.length → (∃ u, w.cell? (A.add (i + j)) = some u) ∧ w.frozen? (A.add (i + j)) = false) →
    ∃ w', (storeCells A vs i).run P w = .ok () w' ∧ w'.os = w.os ∧ w'.tape = w.tape ∧ w'.output = w.output ∧ w'.heap.size = w.heap.size ∧
      (∀ b, b ≠ A.block → w'.heap[b]? = w.heap[b]?) ∧ (∀ q, w'.frozen? q = w.frozen? q) ∧
      (∀ j, w'.cell? (A.add j) = if i ≤ j ∧ j < i + vs.length then vs[j - i]? else w.cell? (A.add j))
  | [], i, w, _, _ => ⟨w, by simp [storeCells], rfl, rfl, rfl, rfl, fun _ _ => rfl, fun _ => rfl, fun j => by rw [if_neg (by simp)]⟩
  | v :: vs, i, w, h1, hc => by
    obtain ⟨⟨u, hu⟩, hf⟩ := hc 0 (by simp)
    rw [Nat.add_zero] at hu hf
    have hst := run_store P w (A.add i) v .plain (h1 v (by simp))
    rw [hu] at hst
    simp only [hf, Bool.false_eq_true, if_false] at hst
    obtain ⟨w', hr, h2, h3, h4, h5, h6, h7, h8⟩ := storeCells_run hs vs (i + 1) (w.setCell (A.add i) v) (fun x hx => h1 x (by simp [hx])) (fun j hj => by
      obtain ⟨⟨u', hu'⟩, hf'⟩ := hc (j + 1) (by simp; omega)
      rw [show i + (j + 1) = i + 1 + j by omega] at hu' hf'
      refine ⟨⟨u', ?_⟩, by rw [World.frozen?_setCell]; exact hf'⟩
      rw [World.cell?_setCell_other _ _ _ _ (add_ne hs (by omega))]; exact hu')
    refine ⟨w', ?_, h2, h3, h4, by rw [h5]; simp, fun b hb => ?_, fun q => by rw [h7]; simp, fun j => ?_⟩
    · simp only [storeCells, Sem.run_bind, hst, Result.andThen_ok]; exact hr
    · rw [h6 b hb]; exact heap_setCell_other _ _ _ _ (by rw [add_block]; exact hb)
    · rw [h8 j]
      by_cases hj : i = j
      · subst hj
        rw [if_neg (by omega), if_pos ⟨Nat.le_refl _, by simp⟩]
        simp [World.cell?_setCell_same _ _ _ hu]
      · by_cases hin : i + 1 ≤ j ∧ j < i + 1 + vs.length
        · rw [if_pos hin, if_pos ⟨by omega, by simp; omega⟩]
          rw [show j - i = (j - (i + 1)) + 1 by omega]; simp
        · rw [if_neg hin, if_neg (by simp; omega), World.cell?_setCell_other _ _ _ _ (add_ne hs hj)]

theorem spot_of_cell {a : Addr} {j : Nat} {v : Value} (h0 : ∃ u, w.cell? (a.add 0) = some u) : a.spot = none := by
  obtain ⟨u, hu⟩ := h0
  rw [show a.add 0 = a by simp [Addr.add]] at hu
  unfold World.cell? at hu
  split at hu
  · cases hs : a.spot with
    | none => rfl
    | some x => simp [hs] at hu
  · cases hu

theorem RegOK.spot {a : Addr} {r : Reg} (h : RegOK e w (some a) r) {j : Nat} {v : Value} (hv : r.con.cell e j = some v) : a.spot = none := by
  cases hc : r.con with
  | flat l =>
    rw [hc] at hv
    cases l with
    | nil => simp [Con.cell] at hv
    | cons x l =>
      obtain ⟨a', ha, hcell, _⟩ := h.cell 0 (x.den e) (by rw [hc]; rfl)
      cases ha
      exact spot_of_cell (j := 0) (v := v) ⟨_, hcell⟩
  | tab n cols =>
    rw [hc] at hv
    obtain ⟨hn, hcl⟩ := Con.some_of_cell hv
    cases cols with
    | nil => exact absurd rfl hcl
    | cons x l =>
      obtain ⟨a', ha, hcell, _⟩ := h.cell 0 (x.at_ 0) (by rw [hc]; simp [Con.cell, hn])
      cases ha
      exact spot_of_cell (j := 0) (v := v) ⟨_, hcell⟩
  | mp es c => rw [hc] at hv; cases hv

/-- Region i is written: cells off .. of it; all else is as it was. -/
theorem Rel.write (h : Rel e w0 W m w) {i : Nat} {c c' : Con} (hi : m[i]? = some (some ⟨true, c⟩)) {a : Addr} (ha : e i = some a) {off : Nat} {vs : List Value} (h0 : vs ≠ [])
    (hone : ∀ v ∈ vs, v.oneCell' = true) (hold : ∀ j, j < vs.length → ∃ u, c.cell e (off + j) = some u)
    (hnew : ∀ j v, c'.cell e j = some v → if off ≤ j ∧ j < off + vs.length then vs[j - off]? = some v else c.cell e j = some v) (hmp : ∀ es k, c' ≠ .mp es k) :
    ∃ w', (storeCells (a.add off) vs).run P w = .ok () w' ∧ Rel e w0 W (m.set i (some ⟨true, c'⟩)) w' := by
  have hR := h.reg i _ hi
  rw [ha] at hR
  have hlen : 0 < vs.length := List.length_pos_iff.2 h0
  obtain ⟨u0, hu0⟩ := hold 0 hlen
  have hsome : c.some_ := Con.some_of_cell hu0
  have hspot : a.spot = none := hR.spot hu0
  have hspot' : (a.add off).spot = none := by unfold Addr.add; split <;> simp [hspot]
  obtain ⟨w', hrun, h1, h2, h3, h4, h5, h6, h7⟩ := storeCells_run (P := P) hspot' vs 0 w hone (fun j hj => by
    obtain ⟨u, hu⟩ := hold j hj
    obtain ⟨a', ha', hcell, hf⟩ := hR.cell _ _ hu
    cases ha'
    rw [add_add, Nat.zero_add]
    exact ⟨⟨u, hcell⟩, hf rfl⟩)
  rw [add_block] at h5
  refine ⟨w', hrun, ⟨⟨h1.trans h.fr.os, h2.trans h.fr.tape, h3.trans h.fr.output, by rw [h4]; exact h.fr.size, fun b hb hw => ?_⟩, ?_, ?_, ?_⟩⟩
  · have hne : b ≠ a.block := by
      rintro rfl
      rcases h.wr i _ a hi rfl hsome ha with hW | hge
      · exact hw hW
      · omega
    rw [h5 b hne]; exact h.fr.block b hb hw
  · intro k r hk
    by_cases hik : i = k
    · subst hik
      have hlt : i < m.length := (List.getElem?_eq_some_iff.1 hi).1
      rw [List.getElem?_set_self hlt] at hk
      cases hk
      rw [ha]
      refine ⟨fun j v hv => ⟨a, rfl, ?_, fun _ => ?_⟩, fun es k hm => absurd hm (hmp es k)⟩
      · have hn := hnew j v hv
        by_cases hin : off ≤ j ∧ j < off + vs.length
        · rw [if_pos hin] at hn
          have h8 := h7 (j - off)
          rw [add_add, show off + (j - off) = j by omega, if_pos ⟨Nat.zero_le _, by omega⟩, Nat.sub_zero] at h8
          rw [h8]; exact hn
        · rw [if_neg hin] at hn
          obtain ⟨a', ha', hcell, _⟩ := hR.cell _ _ hn
          cases ha'
          -- a cell outside
          have hother : w'.cell? (a.add j) = w.cell? (a.add j) := by
            rcases Nat.lt_or_ge j off with hlt' | hge
            · -- before: as a block's cell
              obtain ⟨ws, hws⟩ : ∃ ws : List Value, ws = vs := ⟨_, rfl⟩
              have : ∀ (vs : List Value) (k : Nat) (w1 w2 : World), (storeCells (a.add off) vs k).run P w1 = .ok () w2 → (∀ v ∈ vs, v.oneCell' = true) → (∀ q, q < vs.length → (∃ u, w1.cell? ((a.add off).add (k + q)) = some u) ∧ w1.frozen? ((a.add off).add (k + q)) = false) → w2.cell? (a.add j) = w1.cell? (a.add j) := by
                intro vs
                induction vs with
                | nil => intro k w1 w2 hr _ _; simp [storeCells] at hr; rw [hr]
                | cons v vs ih =>
                  intro k w1 w2 hr h1 hq
                  obtain ⟨⟨u, hu⟩, hf⟩ := hq 0 (by simp)
                  rw [Nat.add_zero] at hu hf
                  have hst := run_store P w1 ((a.add off).add k) v .plain (h1 v (by simp))
                  rw [hu] at hst
                  simp only [hf, Bool.false_eq_true, if_false] at hst
                  simp only [storeCells, Sem.run_bind, hst, Result.andThen_ok] at hr
                  have := ih (k + 1) _ w2 hr (fun x hx => h1 x (by simp [hx])) (fun q hq' => by
                    obtain ⟨⟨u', hu'⟩, hf'⟩ := hq (q + 1) (by simp; omega)
                    rw [show k + (q + 1) = k + 1 + q by omega] at hu' hf'
                    refine ⟨⟨u', ?_⟩, by rw [World.frozen?_setCell]; exact hf'⟩
                    rw [World.cell?_setCell_other _ _ _ _ (add_ne hspot' (by omega))]; exact hu')
                  rw [this, add_add, World.cell?_setCell_other _ _ _ _ (add_ne hspot (by omega))]
              exact this vs 0 w w' hrun hone (fun q hq => by
                obtain ⟨u, hu⟩ := hold q hq
                obtain ⟨a', ha', hcell, hf⟩ := hR.cell _ _ hu
                cases ha'
                rw [add_add, Nat.zero_add]
                exact ⟨⟨u, hcell⟩, hf rfl⟩)
            · have h8 := h7 (j - off)
              rw [add_add, show off + (j - off) = j by omega, if_neg (by omega)] at h8
              exact h8
          rw [hother]; exact hcell
      · rw [h6]
        have hn := hnew j v hv
        by_cases hin : off ≤ j ∧ j < off + vs.length
        · obtain ⟨u, hu⟩ := hold (j - off) (by omega)
          rw [show off + (j - off) = j by omega] at hu
          obtain ⟨a', ha', _, hf⟩ := hR.cell _ _ hu
          cases ha'; exact hf rfl
        · rw [if_neg hin] at hn
          obtain ⟨a', ha', _, hf⟩ := hR.cell _ _ hn
          cases ha'; exact hf rfl
    · rw [List.getElem?_set_ne hik] at hk
      refine (h.reg k r hk).keep fun b hb hs => h5 b.block ?_
      exact fun hh => h.sep i k _ r a b hik hi hk rfl hsome hs ha hb hh.symm
  · intro k j rk rj ak aj hkj hk hj hrw hsk hsj hak haj
    have get : ∀ (q : Nat) (rq : Reg), (m.set i (some ⟨true, c'⟩))[q]? = some (some rq) → (∃ r' : Reg, m[q]? = some (some r') ∧ (rq.rw = true → r'.rw = true) ∧ (rq.con.some_ → r'.con.some_)) := by
      intro q rq hq
      by_cases hiq : i = q
      · subst hiq
        exact ⟨_, hi, fun _ => rfl, fun _ => hsome⟩
      · rw [List.getElem?_set_ne hiq] at hq
        exact ⟨rq, hq, id, id⟩
    obtain ⟨rk', hk', h9, h10⟩ := get k rk hk
    obtain ⟨rj', hj', _, h11⟩ := get j rj hj
    exact h.sep k j rk' rj' ak aj hkj hk' hj' (h9 hrw) (h10 hsk) (h11 hsj) hak haj
  · intro k rk ak hk hrw hsk hak
    by_cases hik : i = k
    · subst hik
      exact h.wr i _ ak hi rfl hsome hak
    · rw [List.getElem?_set_ne hik] at hk
      exact h.wr k rk ak hk hrw hsk hak

theorem kind_eq {a b : IntKind} (h : kindEq a b = true) : a = b := by
  cases a <;> cases b <;> first | rfl | cases h

theorem col_set {q q' : Col} {r : Nat} {x : SA} (h : Col.set q r x = some q') : ∀ s, q'.at_ s = if s = r then x.den e else q.at_ s := by
  intro s
  unfold Col.set at h
  split at h
  · rename_i k g k' n
    split at h
    · rename_i hk
      cases h
      have := kind_eq hk
      subst this
      simp only [Col.at_, SA.den]; split <;> rfl
    · cases h
  all_goals first
    | (cases h; simp only [Col.at_, SA.den]; done)
    | (cases h; simp only [Col.at_, SA.den]; split <;> rfl)
    | (cases h; done)

theorem setCols_get {r : Nat} : ∀ {qs : List Col} {xs : List SA} {qs' : List Col}, setCols r qs xs = some qs' → qs'.length = qs.length ∧ xs.length = qs.length ∧
    ∀ (j : Nat) (q' : Col), qs'[j]? = some q' → ∃ (q : Col) (x : SA), qs[j]? = some q ∧ xs[j]? = some x ∧ ∀ s, q'.at_ s = if s = r then x.den e else q.at_ s
  | [], [], _, h => by cases h; exact ⟨rfl, rfl, fun j q' hj => by simp at hj⟩
  | q :: qs, x :: xs, qs', h => by
    simp only [setCols] at h
    split at h
    · rename_i q1 qs1 h1 h2
      cases h
      obtain ⟨h3, h4, h5⟩ := setCols_get h2
      refine ⟨by simp [h3], by simp [h4], fun j q' hj => ?_⟩
      cases j with
      | zero =>
        simp at hj
        subst hj
        exact ⟨q, x, rfl, rfl, col_set h1⟩
      | succ j => exact h5 j q' (by simpa using hj)
    · cases h
  | [], _ :: _, _, h => by cases h
  | _ :: _, [], _, h => by cases h

theorem sa_one {x : SA} (h : x.one = true) : (x.den e).oneCell' = true := by
  cases x <;> first | exact h | rfl

theorem cells_den (x : SV1) (h : x.cells.all SA.one = true) : (x.den e).cells = (x.cells.map (SA.den e)).toArray := by
  cases x with
  | a x =>
    have h1 : x.one = true := by simpa [SV1.cells] using h
    have h2 := sa_one (e := e) h1
    simp only [SV1.den, SV1.cells, List.map]
    generalize x.den e = v at *
    cases v <;> first | rfl | cases h2
  | agg l => simp [SV1.den, SV1.cells, Value.cells]

theorem rdStore_ok (h : Rel e w0 W m w) {t : TypeId} {p : SA} {x : SV1} {ob : Option Prop} {j : Nat} {r : Reg} (hr : rdStore P m t p x = .wr ob j r) (ho : obp ob) :
    ∃ w', (Instr.storeAt t (p.den e) (x.den e)).run P w = .ok () w' ∧ Rel e w0 W (m.set j (some r)) w' := by
  unfold rdStore at hr
  split at hr
  · rename_i i hi
    split at hr
    · rename_i ob' j' r' hsz hpos hone hset
      cases hr
      have hsz := Nat.beq_iff.1 hsz
      have hpos := blt_iff.1 hpos
      have hne : x.cells ≠ [] := by intro h0; rw [h0] at hsz; simp at hsz; omega
      have hcd := cells_den (e := e) x hone
      have hones : ∀ v ∈ x.cells.map (SA.den e), v.oneCell' = true := by
        intro v hv
        obtain ⟨y, hy, rfl⟩ := List.mem_map.1 hv
        exact sa_one (List.all_eq_true.1 hone y hy)
      have key : ∃ A w', p.den e = .pointer (some A) ∧ (storeCells A (x.cells.map (SA.den e))).run P w = .ok () w' ∧ Rel e w0 W (m.set j (some r)) w' := by
        unfold setAt at hset
        split at hset
        · rename_i i' off
          split at hset
          · rename_i l hreg
            split at hset
            · rename_i hle
              cases hset
              have hle := Nat.ble_iff.1 hle
              have hlen : 0 < x.cells.length := List.length_pos_iff.2 hne
              have hR := h.reg _ _ (reg_of hreg)
              have h0 : off < l.length := by omega
              obtain ⟨a, ha, _⟩ := hR.cell off ((l[off]).den e) (by simp [Con.cell, h0])
              obtain ⟨w', hrun, hrel⟩ := h.write (P := P) (c' := .flat (l.take off ++ x.cells ++ l.drop (off + x.cells.length))) (reg_of hreg) ha (off := off) (vs := x.cells.map (SA.den e)) (by simpa using hne) hones
                (fun j hj => by
                  simp at hj
                  exact ⟨(l[off + j]'(by omega)).den e, by simp [Con.cell, show off + j < l.length by omega]⟩)
                (fun j v hv => by
                  simp only [List.length_map]
                  simp only [Con.cell, List.append_assoc] at hv ⊢
                  rw [List.getElem?_append] at hv
                  by_cases h1 : j < off
                  · rw [if_pos (by simp; omega)] at hv
                    rw [if_neg (by omega)]
                    rw [List.getElem?_take, if_pos h1] at hv
                    exact hv
                  · rw [if_neg (by simp; omega)] at hv
                    have hto : (l.take off).length = off := by simp; omega
                    rw [hto, List.getElem?_append] at hv
                    by_cases h2 : j - off < x.cells.length
                    · rw [if_pos h2] at hv
                      rw [if_pos (by omega), List.getElem?_map]
                      exact hv
                    · rw [if_neg h2] at hv
                      rw [if_neg (by omega)]
                      rw [List.getElem?_drop, show off + x.cells.length + (j - off - x.cells.length) = j by omega] at hv
                      exact hv)
                (fun es k hm => by cases hm)
              exact ⟨a.add off, w', by simp [SA.den, at_some ha], hrun, hrel⟩
            · cases hset
          · cases hset
        · rename_i i' st rr c
          split at hset
          · rename_i n cols hreg
            split at hset
            · rename_i new hst hle hnew
              cases hset
              have hst := Nat.beq_iff.1 hst
              have hle := Nat.ble_iff.1 hle
              subst hst
              have hrn : rr < n := ho
              have hlen : 0 < x.cells.length := List.length_pos_iff.2 hne
              have hR := h.reg _ _ (reg_of hreg)
              have h0 : c < cols.length := by omega
              obtain ⟨a, ha, _⟩ := hR.cell (rr * cols.length + c) _ (tab_cell hrn (List.getElem?_eq_getElem h0))
              obtain ⟨hn1, hn2, hn3⟩ := setCols_get (e := e) hnew
              have hml : ((cols.drop c).take x.cells.length).length = x.cells.length := by simp; omega
              have hcl : (cols.take c ++ new ++ cols.drop (c + x.cells.length)).length = cols.length := by simp; omega
              obtain ⟨w', hrun, hrel⟩ := h.write (P := P) (c' := .tab n (cols.take c ++ new ++ cols.drop (c + x.cells.length))) (reg_of hreg) ha (off := rr * cols.length + c) (vs := x.cells.map (SA.den e)) (by simpa using hne) hones
                (fun j hj => by
                  simp at hj
                  rw [Nat.add_assoc]
                  exact ⟨_, tab_cell hrn (List.getElem?_eq_getElem (show c + j < cols.length by omega))⟩)
                (fun j v hv => by
                  simp only [List.length_map]
                  simp only [Con.cell, hcl] at hv
                  split at hv
                  · rename_i hlt
                    generalize hR : j / cols.length = R at *
                    generalize hC : j % cols.length = C at *
                    have hjv : j = R * cols.length + C := by rw [← hR, ← hC, Nat.mul_comm]; exact (Nat.div_add_mod j cols.length).symm
                    have hCl : C < cols.length := by rw [← hC]; exact Nat.mod_lt _ (by omega)
                    have hto : (cols.take c).length = c := by simp; omega
                    have hRC : R ≠ rr → ¬ (rr * cols.length + c ≤ j ∧ j < rr * cols.length + c + x.cells.length) := by
                      intro hne ⟨hl1, hl2⟩
                      apply hne
                      rcases Nat.lt_or_ge R rr with hlt' | hge
                      · have := Nat.mul_le_mul_right cols.length (show R + 1 ≤ rr from hlt')
                        rw [Nat.add_mul] at this; omega
                      · rcases Nat.lt_or_ge rr R with hlt' | hge'
                        · have := Nat.mul_le_mul_right cols.length (show rr + 1 ≤ R from hlt')
                          rw [Nat.add_mul] at this; omega
                        · omega
                    by_cases h1 : C < c
                    · rw [List.append_assoc, List.getElem?_append, if_pos (by omega), List.getElem?_take, if_pos h1] at hv
                      rw [if_neg (by
                        by_cases hr : R = rr
                        · subst hr; omega
                        · exact hRC hr)]
                      rw [hjv]
                      cases hq : cols[C]? with
                      | none => rw [hq] at hv; cases hv
                      | some q => rw [hq] at hv; cases hv; exact tab_cell hlt hq
                    · rw [List.append_assoc, List.getElem?_append, if_neg (by omega), hto, List.getElem?_append] at hv
                      by_cases h2 : C - c < x.cells.length
                      · rw [if_pos (by omega)] at hv
                        cases hq : new[C - c]? with
                        | none => rw [hq] at hv; cases hv
                        | some q =>
                          rw [hq] at hv
                          cases hv
                          obtain ⟨q0, y, hq0, hy, hat⟩ := hn3 _ _ hq
                          rw [List.getElem?_take, if_pos h2, List.getElem?_drop, show c + (C - c) = C by omega] at hq0
                          simp only []
                          rw [hat R]
                          by_cases hr : R = rr
                          · subst hr
                            rw [if_pos (by omega), if_pos rfl, List.getElem?_map, show j - (R * cols.length + c) = C - c by omega, hy]; rfl
                          · rw [if_neg (hRC hr), if_neg hr, hjv]
                            exact tab_cell hlt hq0
                      · rw [if_neg (by omega), List.getElem?_drop, show c + x.cells.length + (C - c - new.length) = C by omega] at hv
                        rw [if_neg (by
                          by_cases hr : R = rr
                          · subst hr; omega
                          · exact hRC hr)]
                        rw [hjv]
                        cases hq : cols[C]? with
                        | none => rw [hq] at hv; cases hv
                        | some q => rw [hq] at hv; cases hv; exact tab_cell hlt hq
                  · cases hv)
                (fun es k hm => by cases hm)
              exact ⟨a.add (rr * cols.length + c), w', by simp [SA.den, at_some ha], hrun, hrel⟩
            · cases hset
          · cases hset
        · cases hset
      obtain ⟨A, w', hA, hrun, hrel⟩ := key
      refine ⟨w', ?_, hrel⟩
      rw [hA]
      simp [Instr.storeAt, Instr.sureAddr, storeVar, run_sizeOf hi, hcd, hsz, hrun]
    · cases hr
  · cases hr

end
end Go.Sx

/-
  Part 4: operations that make memory.
-/
namespace Go.Sx
open Go.RowKit

section
variable {P : Program} {e e' : Env} {w0 : World} {W : Nat → Prop} {m : Mem} {w : World}

theorem at_congr {n i off : Nat} (h : ∀ i, i < n → e' i = e i) (hi : Nat.blt i n = true) : at_ e' i off = at_ e i off := by
  simp [at_, h i (blt_iff.1 hi)]

theorem SA.congr {n : Nat} (h : ∀ i, i < n → e' i = e i) {x : SA} (hx : x.ok n = true) : x.den e' = x.den e := by
  cases x with
  | ptr i off => simp only [SA.den]; rw [at_congr h hx]
  | rp i st r c => simp only [SA.den]; rw [at_congr h hx]
  | slc i st r len cap => simp only [SA.den]; rw [at_congr h hx]
  | map i => simp only [SA.den]; rw [h i (blt_iff.1 hx)]
  | clo f caps =>
    simp only [SA.den]
    congr 2
    apply List.map_congr_left
    intro c hc
    have := List.all_eq_true.1 hx c hc
    rw [at_congr h this]
  | _ => rfl

theorem map_congr_sa {n : Nat} (h : ∀ i, i < n → e' i = e i) {l : List SA} (hx : l.all (SA.ok n) = true) : l.map (SA.den e') = l.map (SA.den e) :=
  List.map_congr_left fun x hxl => SA.congr h (List.all_eq_true.1 hx x hxl)

theorem SV1.congr {n : Nat} (h : ∀ i, i < n → e' i = e i) {x : SV1} (hx : x.ok n = true) : x.den e' = x.den e := by
  cases x with
  | a x => exact SA.congr h hx
  | agg l => simp only [SV1.den]; rw [map_congr_sa h hx]

theorem SV.congr {n : Nat} (h : ∀ i, i < n → e' i = e i) {x : SV} (hx : x.ok n = true) : x.den e' = x.den e := by
  cases x with
  | one x => exact SV1.congr h hx
  | tup l =>
    simp only [SV.den]
    congr 2
    exact List.map_congr_left fun x hxl => SV1.congr h (List.all_eq_true.1 hx x hxl)

theorem Con.congr {n : Nat} (h : ∀ i, i < n → e' i = e i) {c : Con} (hx : c.ok n = true) (j : Nat) : c.cell e' j = c.cell e j := by
  cases c with
  | flat l =>
    simp only [Con.cell]
    cases hl : l[j]? with
    | none => rfl
    | some x =>
      have hm : x ∈ l := List.mem_of_getElem? hl
      simp only [Option.map_some]
      rw [SA.congr h (List.all_eq_true.1 hx x hm)]
  | tab n cols => rfl
  | mp es c => rfl

theorem Mem.ok_get (h : Mem.ok m = true) {i : Nat} {r : Reg} (hi : m[i]? = some (some r)) : r.con.ok m.length = true := by
  have := List.all_eq_true.1 h (some r) (List.mem_of_getElem? hi)
  simpa using this

/-- A new block. -/
theorem Rel.alloc (h : Rel e w0 W m w) {o : Obj} {r : Reg} (hag : ∀ i, i < m.length → e' i = e i) (hn : e' m.length = some ⟨w.heap.size, 0, none⟩) (hok : Mem.ok m = true)
    (hr : RegOK e' (w.alloc o) (some ⟨w.heap.size, 0, none⟩) r) : Rel e' w0 W (m ++ [some r]) (w.alloc o) := by
  have hold : ∀ i r', m[i]? = some (some r') → RegOK e' (w.alloc o) (e' i) r' := by
    intro i r' hi
    have hlt : i < m.length := (List.getElem?_eq_some_iff.1 hi).1
    rw [hag i hlt]
    have h1 := h.reg i r' hi
    have h2 : RegOK e (w.alloc o) (e i) r' := h1.keep fun a ha hs => by
      rw [ha] at h1
      exact Below.heap_alloc _ _ _ (h1.lt hs)
    refine ⟨fun j v hv => ?_, h2.map⟩
    rw [Con.congr hag (Mem.ok_get hok hi)] at hv
    exact h2.cell j v hv
  have hget : ∀ i r', (m ++ [some r])[i]? = some (some r') → (m[i]? = some (some r') ∧ i < m.length) ∨ (i = m.length ∧ r' = r) := by
    intro i r' hi
    rcases Nat.lt_or_ge i m.length with hlt | hge
    · rw [List.getElem?_append_left hlt] at hi
      exact .inl ⟨hi, hlt⟩
    · rw [List.getElem?_append_right hge] at hi
      rcases Nat.eq_zero_or_pos (i - m.length) with h0 | h0
      · rw [h0] at hi; simp at hi; exact .inr ⟨by omega, hi.symm⟩
      · rw [List.getElem?_eq_none (by simp; omega)] at hi; cases hi
  have hbl : ∀ i r' a, m[i]? = some (some r') → i < m.length → r'.con.some_ → e' i = some a → a.block < w.heap.size := by
    intro i r' a hi hlt hs ha
    rw [hag i hlt] at ha
    have h1 := h.reg i r' hi
    rw [ha] at h1
    exact h1.lt hs
  refine ⟨⟨h.fr.os, h.fr.tape, h.fr.output, by have := h.fr.size; simp; omega, fun b hb hw => ?_⟩, ?_, ?_, ?_⟩
  · rw [Below.heap_alloc _ _ _ (by have := h.fr.size; omega)]; exact h.fr.block b hb hw
  · intro i r' hi
    rcases hget i r' hi with ⟨hi, _⟩ | ⟨rfl, rfl⟩
    · exact hold i r' hi
    · rw [hn]; exact hr
  · intro i j ri rj a b hij hi hj hrw hsi hsj ha hb
    rcases hget i ri hi with ⟨hi1, hil⟩ | ⟨hi1, hi2⟩ <;> rcases hget j rj hj with ⟨hj1, hjl⟩ | ⟨hj1, hj2⟩
    · rw [hag i hil] at ha
      rw [hag j hjl] at hb
      exact h.sep i j ri rj a b hij hi1 hj1 hrw hsi hsj ha hb
    · have := hbl i ri a hi1 hil hsi ha
      rw [hj1, hn] at hb; cases hb
      exact Nat.ne_of_lt this
    · have := hbl j rj b hj1 hjl hsj hb
      rw [hi1, hn] at ha; cases ha
      exact (Nat.ne_of_lt this).symm
    · exact absurd (hi1.trans hj1.symm) hij
  · intro i ri a hi hrw hs ha
    rcases hget i ri hi with ⟨hi, hil⟩ | ⟨rfl, rfl⟩
    · rw [hag i hil] at ha
      exact h.wr i ri a hi hrw hs ha
    · rw [hn] at ha; cases ha
      exact .inr h.fr.size

theorem toSA_den (v : Value) : (toSA v).den e = v := by
  unfold toSA
  split <;> rfl

theorem cell_new (w : World) (c : Array Value) (t : TypeId) (j : Nat) : (w.alloc (.cells c t)).cell? ((⟨w.heap.size, 0, none⟩ : Addr).add j) = c[j]? := by
  rw [Addr.add_lit, Nat.zero_add]; exact World.cell?_alloc_new w c t j
theorem frozen_new (w : World) (c : Array Value) (t : TypeId) (j : Nat) : (w.alloc (.cells c t)).frozen? ((⟨w.heap.size, 0, none⟩ : Addr).add j) = false := by
  rw [Addr.add_lit, Nat.zero_add]; exact World.frozen?_alloc_new w c t j

theorem regOK_new {l : List SA} {con : Con} {t : TypeId} (hcon : ∀ j v, con.cell e' j = some v → (l[j]?).map (SA.den e') = some v) (hmp : ∀ es k, con ≠ .mp es k) :
    RegOK e' (w.alloc (.cells (l.map (SA.den e')).toArray t)) (some ⟨w.heap.size, 0, none⟩) ⟨true, con⟩ := by
  refine ⟨fun j v hv => ⟨_, rfl, ?_, fun _ => frozen_new _ _ _ _⟩, fun es k hm => absurd hm (hmp es k)⟩
  rw [cell_new]
  have := hcon j v hv
  simpa using this

theorem rdAlloc_ok {t : TypeId} {r : Reg} {f : Nat → SV} {ob : Option Prop} (hr : rdAlloc P t = .new ob r f) :
    ∃ o, (Instr.alloc t true (.tuple #[])).run P w = .ok (.pointer (some ⟨w.heap.size, 0, none⟩)) (w.alloc o) ∧
      (∀ n, f n = .one (.a (.ptr n 0))) ∧ ∀ e', RegOK e' (w.alloc o) (some ⟨w.heap.size, 0, none⟩) r := by
  unfold rdAlloc at hr
  split at hr
  · rename_i i hi
    split at hr
    · rename_i z hz
      cases hr
      refine ⟨.cells z.cells t, ?_, fun _ => rfl, fun e' => ?_⟩
      · simp [Instr.alloc, run_zero hi hz, newVar, newRow]
      · have h1 : z.cells = ((z.cells.toList.map toSA).map (SA.den e')).toArray := by
          rw [List.map_map, show (SA.den e' ∘ toSA) = id from funext fun v => toSA_den v]; simp
        rw [show (Obj.cells z.cells t) = Obj.cells ((z.cells.toList.map toSA).map (SA.den e')).toArray t by rw [← h1]]
        exact regOK_new (fun j v hv => hv) (fun es k hm => by cases hm)
    · cases hr
  · cases hr

/-! ### Parts put into cells -/

theorem foldl_set (off : Nat) : ∀ (vs : List Value) (k : Nat) (cs : List Value), off + k + vs.length ≤ cs.length →
    (vs.zipIdx k).foldl (fun (cs : Array Value) (x : Value × Nat) => cs.setIfInBounds (off + x.2) x.1) cs.toArray = (cs.take (off + k) ++ vs ++ cs.drop (off + k + vs.length)).toArray
  | [], k, cs, h => by simp
  | v :: vs, k, cs, h => by
    simp only [List.length_cons] at h
    simp only [List.zipIdx_cons, List.foldl_cons]
    have h1 : cs.toArray.setIfInBounds (off + k) v = (cs.set (off + k) v).toArray := by simp
    rw [h1, foldl_set off vs (k + 1) (cs.set (off + k) v) (by simp; omega)]
    congr 1
    apply List.ext_getElem?
    intro j
    simp only [List.append_assoc, List.getElem?_append, List.length_take, List.length_set, List.getElem?_take, List.getElem?_set, List.getElem?_drop, List.length_cons]
    rw [show min (off + (k + 1)) cs.length = off + k + 1 by omega, show min (off + k) cs.length = off + k by omega]
    by_cases h2 : j < off + k
    · rw [if_pos (by omega), if_pos (by omega), if_neg (by omega), if_pos (by omega), if_pos h2]
    · by_cases h3 : j = off + k
      · subst h3
        rw [if_pos (by omega), if_pos (by omega), if_pos rfl, if_pos (by omega), if_neg (by omega)]
        simp
      · rw [if_neg (by omega), if_neg h2]
        by_cases h4 : j < off + k + 1 + vs.length
        · rw [if_pos (by omega), if_pos (by omega), show j - (off + k) = (j - (off + k + 1)) + 1 by omega]
          simp
        · rw [if_neg (by omega), if_neg (by omega), if_neg (by omega)]
          congr 1; omega

theorem fill_ok {place : Nat → Option (Nat × Nat)} : ∀ {parts : List (Nat × SV1)} {cs cs' : List SA}, (∀ x ∈ parts, x.2.cells.all SA.one = true) → fillL place cs parts = some cs' →
    Instr.fill place (cs.map (SA.den e)).toArray (parts.map fun x => (x.1, x.2.den e)) = some (cs'.map (SA.den e)).toArray
  | [], cs, cs', _, h => by cases h; rfl
  | (i, v) :: rest, cs, cs', h1, h => by
    simp only [fillL] at h
    split at h
    · cases h
    · rename_i off size hp
      split at h
      · rename_i hs hl
        have hs := Nat.beq_iff.1 hs
        have hl := Nat.ble_iff.1 hl
        have hone := h1 (i, v) (by simp)
        have hcd := cells_den (e := e) v hone
        have ih := fill_ok (fun x hx => h1 x (by simp [hx])) h
        simp only [List.map_cons, Instr.fill, hp, hcd]
        rw [if_neg (by simp; omega)]
        rw [← ih]
        congr 1
        have := foldl_set off (v.cells.map (SA.den e)) 0 (cs.map (SA.den e)) (by simp; omega)
        rw [← Array.foldl_toList]
        simp only [List.toList_toArray, Array.toList_zipIdx, Nat.add_zero] at this ⊢
        rw [this]
        simp
      · cases h

end
end Go.Sx

/-
  Part 5: aggregates and slices that are built.
-/
namespace Go.Sx
open Go.RowKit

section
variable {P : Program} {e e' : Env} {w0 : World} {W : Nat → Prop} {m : Mem} {w : World}

theorem evs_ok {S : St} {a : Act} (ht : RelT e S a) : ∀ {l : List (Nat × Operand)} {r : List (Nat × SV1)}, evs S l = some r →
    (∀ x ∈ r, x.2.cells.all SA.one = true) ∧ l.map (fun x => (x.1, a.eval x.2)) = r.map fun x => (x.1, x.2.den e)
  | [], _, h => by cases h; exact ⟨fun x hx => by simp at hx, rfl⟩
  | (i, x) :: l, r, h => by
    simp only [evs] at h
    split at h
    · rename_i v r' hv hr
      split at h
      · rename_i hone
        cases h
        obtain ⟨h1, h2⟩ := evs_ok ht hr
        refine ⟨fun y hy => ?_, ?_⟩
        · rcases List.mem_cons.1 hy with rfl | hy
          · exact hone
          · exact h1 y hy
        · have := evOk ht hv
          simp only [List.map_cons, h2, this]; rfl
      · cases h
    · cases h

theorem placesOf_ok : ∀ {fs : List Field} {ps : List (Nat × Nat)}, placesOf P fs = some ps → (fs.mapM fun (f : Field) => (do pure (f.offset, ← sizeOf f.type) : Sem (Nat × Nat))).run P w = .ok ps w
  | [], _, h => by cases h; simp
  | f :: fs, ps, h => by
    simp only [placesOf] at h
    split at h
    · rename_i i r hi hr
      cases h
      have ih := placesOf_ok hr
      rw [List.mapM_cons]
      simp only [Sem.run_bind, run_sizeOf hi, Result.andThen_ok, Sem.run_pure, ih]
    · cases h

theorem rdBuild_ok {t : TypeId} {parts : List (Nat × SV1)} {ob : Option Prop} {v : SV} (hone : ∀ x ∈ parts, x.2.cells.all SA.one = true) (hr : rdBuild P t parts = .val ob v) :
    (Instr.build t (parts.map fun x => (x.1, x.2.den e)).toArray).run P w = .ok (v.den e) w := by
  unfold rdBuild at hr
  split at hr
  · rename_i i fs hi hd
    split at hr
    · rename_i z ps hz hps
      split at hr
      · rename_i cs hf
        cases hr
        have h1 : z.cells = ((z.cells.toList.map toSA).map (SA.den e)).toArray := by
          rw [List.map_map, show (SA.den e ∘ toSA) = id from funext fun v => toSA_den v]; simp
        have h2 := fill_ok (e := e) hone hf
        rw [← h1] at h2
        have h3 := placesOf_ok (P := P) (w := w) hps
        have h4 : (fs.mapM fun (f : Field) => (do pure (f.offset, ← sizeOf f.type) : Sem (Nat × Nat))).run P w = .ok ps.toArray w := by
          rw [Array.mapM_eq_mapM_toList, Sem.run_map, h3]; rfl
        have h5 : (fun (x : Nat) => ps.toArray[x]?) = fun (j : Nat) => ps[j]? := by funext j; simp
        simp only [Instr.build, Sem.run_bind, run_zero hi hz, run_underlying hd, Result.andThen_ok, h4, h5, List.toList_toArray, h2, Sem.run_pure]
        rfl
      · cases hr
    · cases hr
  · rename_i i n el hi hd
    split at hr
    · rename_i z inf hz hinf
      split at hr
      · rename_i cs hf
        cases hr
        have h1 : z.cells = ((z.cells.toList.map toSA).map (SA.den e)).toArray := by
          rw [List.map_map, show (SA.den e ∘ toSA) = id from funext fun v => toSA_den v]; simp
        have h2 := fill_ok (e := e) hone hf
        rw [← h1] at h2
        simp only [Instr.build, Sem.run_bind, run_zero hi hz, run_underlying hd, Result.andThen_ok, run_sizeOf hinf, List.toList_toArray, h2, Sem.run_pure]
        rfl
      · cases hr
    · cases hr
  · cases hr

/-! ### Rows -/

theorem every_get {st : Nat} (hst : 0 < st) : ∀ (n : Nat) (l : List SA) (r : Nat), (every st n l)[r]? = if r < n then l[r * st]? else none
  | 0, l, r => by simp [every]
  | n + 1, [], r => by simp [every]
  | n + 1, x :: l, r => by
    simp only [every]
    cases r with
    | zero => simp
    | succ r =>
      rw [List.getElem?_cons_succ, every_get hst n _ r, List.getElem?_drop]
      by_cases h : r < n
      · rw [if_pos h, if_pos (by omega), show st + r * st = (r + 1) * st by rw [Nat.add_mul]; omega]
      · rw [if_neg h, if_neg (by omega)]

theorem intsOf_get : ∀ {l : List SA} {k : IntKind} {ns : List Int}, intsOf l = some (k, ns) → ∀ (r : Nat) (x : SA), l[r]? = some x → x = .v (.int k (ns.getD r 0))
  | [], _, _, h => by cases h
  | [x], k, ns, h => by
    intro r y hy
    unfold intsOf at h
    split at h
    · rename_i k' n heq
      cases h
      cases heq
      cases r with
      | zero => simp at hy; subst hy; rfl
      | succ r => simp at hy
    · rename_i k' n l' _ heq
      cases heq
      simp [intsOf] at h
    · cases h
  | x :: y :: l, k, ns, h => by
    intro r z hz
    unfold intsOf at h
    split at h
    · rename_i heq; cases heq
    · rename_i k' n l' hne heq
      cases heq
      split at h
      · rename_i k2 r2 h2
        split at h
        · rename_i hk
          cases h
          have hk := kind_eq hk
          subst hk
          cases r with
          | zero => simp at hz; subst hz; rfl
          | succ r =>
            have := intsOf_get h2 r z (by simpa using hz)
            rw [this]; rfl
        · cases h
      · cases h
    · cases h

theorem boolOf_den {x : SA} {b : Bool} (h : boolOf x = some b) : x.den e = .bool b := by
  unfold boolOf at h
  split at h <;> first | (cases h; rfl) | cases h

theorem boolsOf_get : ∀ {l : List SA} {bs : List Bool}, boolsOf l = some bs → ∀ (r : Nat) (x : SA), l[r]? = some x → x.den e = .bool (bs.getD r false)
  | [], _, h => by intro r x hx; simp at hx
  | y :: l, bs, h => by
    intro r x hx
    simp only [boolsOf] at h
    split at h
    · rename_i b r' hb hr
      cases h
      cases r with
      | zero => simp at hx; subst hx; exact boolOf_den hb
      | succ r => exact boolsOf_get hr r x (by simpa using hx)
    · cases h

theorem colOf_get {l : List SA} {q : Col} (h : colOf l = some q) (r : Nat) (x : SA) (hx : l[r]? = some x) : q.at_ r = x.den e := by
  unfold colOf at h
  split at h
  · rename_i k ns hi
    cases h
    rw [intsOf_get hi r x hx]; rfl
  · split at h
    · rename_i bs hb
      cases h
      rw [boolsOf_get (e := e) hb r x hx]; rfl
    · cases h

theorem colsOf_get {st n : Nat} {l : List SA} : ∀ {c : Nat} {cols : List Col}, c ≤ st → colsOf st n l c = some cols → cols.length = c ∧ ∀ j, j < c → ∃ q, cols[j]? = some q ∧ colOf (every st n (l.drop (st - c + j))) = some q
  | 0, cols, _, h => by cases h; exact ⟨rfl, fun j hj => by omega⟩
  | c + 1, cols, hc, h => by
    simp only [colsOf] at h
    split at h
    · rename_i q r hq hr
      cases h
      obtain ⟨h1, h2⟩ := colsOf_get (by omega) hr
      refine ⟨by simp [h1], fun j hj => ?_⟩
      cases j with
      | zero => exact ⟨q, rfl, hq⟩
      | succ j =>
        obtain ⟨q', hq', h3⟩ := h2 j (by omega)
        exact ⟨q', by simpa using hq', by rw [← h3]; congr 3; omega⟩
    · cases h

theorem asRows_cell {st n : Nat} {l : List SA} (hst : 0 < st) (hl : l.length = n * st) {j : Nat} {v : Value} (h : (asRows st n l).cell e j = some v) : (l[j]?).map (SA.den e) = some v := by
  unfold asRows at h
  split at h
  · rename_i cols hc
    obtain ⟨h1, h2⟩ := colsOf_get (Nat.le_refl _) hc
    simp only [Con.cell, h1] at h
    split at h
    · rename_i hlt
      have hm : j % st < st := Nat.mod_lt _ hst
      obtain ⟨q, hq, h3⟩ := h2 (j % st) hm
      rw [hq] at h
      cases h
      have hj : j = j / st * st + j % st := by rw [Nat.mul_comm]; exact (Nat.div_add_mod j st).symm
      have hjl : j < l.length := by
        rw [hl]
        have := Nat.mul_le_mul_right st (show j / st + 1 ≤ n from hlt)
        rw [Nat.add_mul] at this
        omega
      have hg : (every st n (l.drop (st - st + j % st)))[j / st]? = some l[j] := by
        rw [every_get hst, if_pos hlt, List.getElem?_drop, show st - st + j % st + j / st * st = j by omega]
        exact List.getElem?_eq_getElem hjl
      rw [List.getElem?_eq_getElem hjl, Option.map_some]
      exact congrArg some (colOf_get (e := e) h3 _ _ hg).symm
    · cases h
  · exact h

theorem asRows_mp {st n : Nat} {l : List SA} : ∀ es k, asRows st n l ≠ .mp es k := by
  intro es k h
  unfold asRows at h
  split at h <;> cases h

theorem repl_len (n : Nat) (z : List SA) : (repl n z).length = n * z.length := by
  induction n with
  | zero => simp [repl]
  | succ n ih => simp [repl, ih, Nat.add_mul, Nat.add_comm]

theorem repl_get {n : Nat} {z : List SA} (hz : 0 < z.length) : ∀ j, j < n * z.length → (repl n z)[j]? = z[j % z.length]? := by
  induction n with
  | zero => intro j hj; omega
  | succ n ih =>
    intro j hj
    rw [Nat.add_mul] at hj
    simp only [repl]
    rw [List.getElem?_append]
    by_cases h : j < z.length
    · rw [if_pos h, Nat.mod_eq_of_lt h]
    · rw [if_neg h, ih _ (by omega), Nat.mod_eq_sub_mod (a := j) (by omega)]

theorem fillL_len {place : Nat → Option (Nat × Nat)} : ∀ {parts : List (Nat × SV1)} {cs cs' : List SA}, fillL place cs parts = some cs' → cs'.length = cs.length
  | [], _, _, h => by cases h; rfl
  | (i, v) :: rest, cs, cs', h => by
    simp only [fillL] at h
    split at h
    · cases h
    · split at h
      · rename_i hl
        have hl := Nat.ble_iff.1 hl
        rw [fillL_len h]; simp; omega
      · cases h

theorem rdBuildSlice_ok {t : TypeId} {len : Nat} {parts : List (Nat × SV1)} {ob : Option Prop} {r : Reg} {f : Nat → SV} (hone : ∀ x ∈ parts, x.2.cells.all SA.one = true) (hr : rdBuildSlice P t len parts = .new ob r f) :
    ∃ (s : Nat) (l : List SA) (el : TypeId), (∀ n, f n = .one (.a (.slc n s 0 len len))) ∧ r.rw = true ∧ (∀ es k, r.con ≠ .mp es k) ∧ (∀ (e' : Env) j v, r.con.cell e' j = some v → (l[j]?).map (SA.den e') = some v) ∧
      ∀ e' : Env, (Instr.buildSlice t len (parts.map fun x => (x.1, x.2.den e')).toArray).run P w = .ok (.slice (some ⟨w.heap.size, 0, none⟩) len len) (w.alloc (.cells (l.map (SA.den e')).toArray el)) := by
  unfold rdBuildSlice at hr
  split at hr
  · rename_i el hd
    split at hr
    · rename_i inf hinf
      split at hr
      · rename_i z hz
        split at hr
        · rename_i cs h1 h2 h3 h4
          cases hr
          have h1 := Nat.ble_iff.1 h1
          have h2 := Nat.beq_iff.1 h2
          have h3 : inf.size ≠ 0 := by intro h0; rw [h0] at h3; simp at h3
          have hzl : (z.cells.toList.map toSA).length = inf.size := by simp [h2]
          have hlen : cs.length = len * inf.size := by rw [fillL_len h4, repl_len, hzl]
          refine ⟨inf.size, cs, el, fun _ => rfl, rfl, asRows_mp, fun e' j v hv => asRows_cell (by omega) hlen hv, fun e' => ?_⟩
          have h5 := fill_ok (e := e') hone h4
          have h6 : (Array.range (len * inf.size)).map (fun i => ((if len * inf.size = 0 then #[] else z.cells : Array Value)[i % (if len * inf.size = 0 then #[] else z.cells : Array Value).size]!)) = ((repl len (z.cells.toList.map toSA)).map (SA.den e')).toArray := by
            apply Array.ext
            · simp [repl_len, h2]
            · intro j hj1 hj2
              simp at hj1
              have hne : len * inf.size ≠ 0 := by omega
              simp only [Array.getElem_map, Array.getElem_range, if_neg hne]
              have hm : j % inf.size < inf.size := Nat.mod_lt _ (by omega)
              have hg := repl_get (n := len) (z := z.cells.toList.map toSA) (by omega) j (by rw [hzl]; exact hj1)
              have hg2 : ((repl len (z.cells.toList.map toSA)).map (SA.den e'))[j]? = some (z.cells[j % inf.size]'(by omega)) := by
                rw [List.getElem?_map, hg, hzl, List.getElem?_map]
                simp [h2, hm, toSA_den]
              rw [h2]
              simp only [List.getElem_toArray]
              rw [List.getElem?_eq_some_iff] at hg2
              obtain ⟨_, hg3⟩ := hg2
              rw [hg3]
              simp [h2, hm]
          have h7 : ¬ len * inf.size > 2 ^ 24 := by omega
          simp only [Instr.buildSlice, Sem.run_bind, run_underlying hd, Result.andThen_ok, run_sizeOf hinf, Sem.run_ite, Sem.run_pure, if_neg h7, run_zero hinf hz, Result.andThen_ite]
          by_cases h0 : len * inf.size = 0
          · simp only [if_pos h0] at h6 ⊢
            rw [h6]
            simp only [List.toList_toArray, h5]
            simp [newRow]
          · simp only [if_neg h0] at h6 ⊢
            rw [h6]
            simp only [List.toList_toArray, h5]
            simp [newRow]
        · cases hr
      · cases hr
    · cases hr
  · cases hr

end
end Go.Sx

/-
  Part 6: operations that only compute.
-/
namespace Go.Sx
open Go.RowKit

section
variable {P : Program} {e e' : Env} {w0 : World} {W : Nat → Prop} {m : Mem} {w : World}

theorem leads_ok (h : Rel e w0 W m w) {p : SA} (hl : leads m p = true) : (∃ A, p.den e = .pointer (some A)) ∨ ∃ f caps, p = .clo f caps := by
  have reg_some : ∀ i, (match m.reg i with | some ⟨_, .flat (_ :: _)⟩ => true | some ⟨_, .mp ..⟩ => true | _ => false) = true → ∃ a, e i = some a := by
    intro i hi
    split at hi
    · rename_i x l hreg
      obtain ⟨a, ha, _⟩ := (h.reg _ _ (reg_of hreg)).cell 0 (x.den e) rfl
      exact ⟨a, ha⟩
    · rename_i es k hreg
      obtain ⟨a, ha, _⟩ := (h.reg _ _ (reg_of hreg)).map es k rfl
      exact ⟨a, ha⟩
    · cases hi
  unfold leads at hl
  split at hl
  · rename_i i off
    obtain ⟨a, ha⟩ := reg_some i hl
    exact .inl ⟨_, by simp [SA.den, at_some ha]; rfl⟩
  · rename_i i st r c
    obtain ⟨a, ha⟩ := reg_some i hl
    exact .inl ⟨_, by simp [SA.den, at_some ha]; rfl⟩
  · rename_i a
    exact .inl ⟨a, rfl⟩
  · rename_i f caps
    exact .inr ⟨f, caps, rfl⟩
  · cases hl

/-- an address that is not nil -/
def pts (e : Env) (p : SA) : Prop := ∃ A, p.den e = .pointer (some A)

theorem ptsOb_ok (h : Rel e w0 W m w) {p : SA} {ob : Option Prop} (hl : ptsOb m p = some ob) (ho : obp ob) : pts e p ∨ ∃ f caps, p = .clo f caps := by
  unfold ptsOb at hl
  split at hl
  · rename_i hl1
    exact leads_ok h hl1
  · cases p with
    | rp i st r c =>
      simp only at hl
      split at hl
      · rename_i rw n q cols hreg
        cases hl
        have hr : r < n := ho
        obtain ⟨a, ha, _⟩ := (h.reg _ _ (reg_of hreg)).cell (r * (q :: cols).length + 0) _ (tab_cell (c := 0) hr rfl)
        exact .inl ⟨_, by simp [SA.den, at_some ha]; rfl⟩
      · cases hl
    | _ => cases hl

theorem rdField_ok (h : Rel e w0 W m w) {t : TypeId} {p : SA} {f : Nat} {ob : Option Prop} {v : SV} (hr : rdField P m t p f = .val ob v) (ho : obp ob) : (Instr.fieldAt t (p.den e) f).run P w = .ok (v.den e) w := by
  unfold rdField at hr
  split at hr
  · rename_i fs hd
    split at hr
    · rename_i fl hf
      split at hr
      · rename_i i hi
        split at hr
        · rename_i ob' j off hz hob
          cases hr
          have hz : i.size ≠ 0 := by intro h0; rw [h0] at hz; simp at hz
          rcases ptsOb_ok h hob ho with ⟨A, hA⟩ | ⟨_, _, h1⟩
          · simp only [SA.den, at_] at hA
            cases he : e j with
            | none => rw [he] at hA; cases hA
            | some a =>
              simp [Instr.fieldAt, run_underlying hd, hf, SA.den, at_some he, Instr.sureAddr, fieldPlace, run_sizeOf hi, hz, SV.den, SV1.den, add_add]
          · cases h1
        · rename_i ob' j st r c hz hob
          cases hr
          have hz : i.size ≠ 0 := by intro h0; rw [h0] at hz; simp at hz
          rcases ptsOb_ok h hob ho with ⟨A, hA⟩ | ⟨_, _, h1⟩
          · simp only [SA.den, at_] at hA
            cases he : e j with
            | none => rw [he] at hA; cases hA
            | some a =>
              simp [Instr.fieldAt, run_underlying hd, hf, SA.den, at_some he, Instr.sureAddr, fieldPlace, run_sizeOf hi, hz, SV.den, SV1.den, add_add, Nat.add_assoc]
          · cases h1
        · cases hr
      · cases hr
    · cases hr
  · cases hr

theorem elemAt_ok (h : Rel e w0 W m w) {x p : SA} {ob : Option Prop} (hob : ptsOb m x = some ob) (ho : obp ob) {sz j : Nat} (hp : SA.elemAt sz x j = some p) :
    ∃ A, x.den e = .pointer (some A) ∧ p.den e = .pointer (some (A.add (j * sz))) := by
  rcases ptsOb_ok h hob ho with ⟨A, hA⟩ | ⟨f, caps, rfl⟩
  · refine ⟨A, hA, ?_⟩
    cases x with
    | ptr i off =>
      cases hp
      simp only [SA.den, at_] at hA ⊢
      cases he : e i with
      | none => rw [he] at hA; cases hA
      | some a => rw [he] at hA; cases hA; simp [add_add]
    | rp i st r c =>
      cases hp
      simp only [SA.den, at_] at hA ⊢
      cases he : e i with
      | none => rw [he] at hA; cases hA
      | some a => rw [he] at hA; cases hA; simp [add_add, Nat.add_assoc]
    | _ => cases hp
  · cases hp

theorem constPlace_ok {ix : Operand} {n j : Nat} (h : constPlace ix n = some j) : (∃ k, ix = .const (.int k (j : Int))) ∧ j < n := by
  unfold constPlace at h
  split at h
  · split at h
    · rename_i hlt
      cases h
      exact ⟨⟨_, rfl⟩, blt_iff.1 hlt⟩
    · cases h
  · cases h

/-- What is shown of an operation that only computes. -/
def Vals (P : Program) (e : Env) (w : World) (s : Sem Value) : R → Prop
  | .val ob v => obp ob → s.run P w = .ok (v.den e) w
  | .alts ob l => ob → ∃ pv ∈ l, pv.1 ∧ s.run P w = .ok (pv.2.den e) w
  | .new .. | .wr .. | .app .. => False
  | _ => True

theorem places_mem {ob : Option Prop} {x : Int} {n : Nat} {f : Nat → SV} {s : Sem Value} (h : obp ob → ∀ j : Nat, j < n → x = (j : Int) → s.run P w = .ok ((f j).den e) w) : Vals P e w s (places ob x n f) := by
  intro ho
  have h1 : obp ob ∧ 0 ≤ x ∧ x < n := by
    cases ob with
    | none => exact ⟨trivial, ho⟩
    | some q => exact ho
  obtain ⟨h2, h3, h4⟩ := h1
  refine ⟨(x = ((x.toNat : Nat) : Int), f x.toNat), List.mem_map.2 ⟨x.toNat, by simp; omega, rfl⟩, by simp; omega, h h2 x.toNat (by omega) (by omega)⟩

theorem rdIndexAddr_ok (h : Rel e w0 W m w) {t : TypeId} {x : SA} {ix : Operand} {iv : SA} (hix : ∀ v, ix = .const v → iv.den e = v) : Vals P e w (Instr.indexAt t (x.den e) (iv.den e)) (rdIndexAddr P m t x ix iv) := by
  unfold rdIndexAddr
  split
  · rename_i el k n hd
    split
    · rename_i inf i st r len cap hinf
      split
      · rename_i rw N cols hreg
        split
        · rename_i h1 h2 h3
          have h1 := Nat.beq_iff.1 h1
          have h2 := Nat.beq_iff.1 h2
          have h3 : st ≠ 0 := by intro h0; rw [h0] at h3; simp at h3
          intro ho
          obtain ⟨h4, h5, h6⟩ := ho
          have hcl : ∃ q, cols[0]? = some q := ⟨_, List.getElem?_eq_getElem (by omega)⟩
          obtain ⟨q, hq⟩ := hcl
          obtain ⟨a, ha, _⟩ := (h.reg _ _ (reg_of hreg)).cell _ _ (tab_cell h6 hq)
          have hi : (0 : Int) ≤ n ∧ n < (len : Int) := ⟨h4, h5⟩
          simp [Instr.indexAt, SA.den, asIntOf, run_underlying hd, at_some ha, hi, run_sizeOf hinf, SV.den, SV1.den, add_add, ← h1, Nat.add_mul]
        · trivial
      · trivial
    · trivial
  · rename_i len el k n hd
    split
    · rename_i inf hinf hlen
      have hlen := Nat.ble_iff.1 hlen
      have arr : ∀ (A : Addr) (j : Nat), x.den e = .pointer (some A) → n = (j : Int) → j < len → (Instr.indexAt t (x.den e) (.int k n)).run P w = .ok (.pointer (some (A.add (j * inf.size)))) w := by
        intro A j hA hn hj
        subst hn
        have h1 : ¬ len ≤ 1 := by omega
        have h2 : ((j : Int) < (len : Int)) := by omega
        simp [Instr.indexAt, hA, asIntOf, run_underlying hd, Instr.sureAddr, h1, hj, run_sizeOf hinf]
      have main : (∃ i off, x = .ptr i off) ∨ (∃ i st r c, x = .rp i st r c) → Vals P e w (Instr.indexAt t (x.den e) (.int k n)) (match ptsOb m x, constPlace ix len with
        | some ob, some j => (match SA.elemAt inf.size x j with | some p => .val ob (.one (.a p)) | none => .bad)
        | some ob, none => places ob n len fun j => match SA.elemAt inf.size x j with | some p => .one (.a p) | none => .tup []
        | none, _ => .bad) := by
        intro hx
        split
        · rename_i ob j hob hcp
          obtain ⟨⟨k', hk⟩, hj⟩ := constPlace_ok hcp
          have hn : n = (j : Int) := by have := hix _ hk; cases this; rfl
          split
          · rename_i p hp
            intro ho
            obtain ⟨A, hA, hp2⟩ := elemAt_ok h hob ho hp
            rw [arr A j hA hn hj]
            simp only [SV.den, SV1.den, hp2]
          · trivial
        · rename_i ob hob hcp
          refine places_mem fun ho j hj hn => ?_
          have hp : ∃ p, SA.elemAt inf.size x j = some p := by
            rcases hx with ⟨i, off, rfl⟩ | ⟨i, st, r, c, rfl⟩ <;> exact ⟨_, rfl⟩
          obtain ⟨p, hp⟩ := hp
          obtain ⟨A, hA, hp2⟩ := elemAt_ok h hob ho hp
          rw [arr A j hA hn hj, hp]
          simp only [SV.den, SV1.den, hp2]
        · trivial
      split
      · exact main (.inl ⟨_, _, rfl⟩)
      · exact main (.inr ⟨_, _, _, _, rfl⟩)
      · trivial
    · trivial
  · trivial

theorem partOf_ok {t : TypeId} {cs : List SA} {off : Nat} {v : SV1} (h : partOf P t cs off = some v) : (part t (cs.map (SA.den e)).toArray off).run P w = .ok (v.den e) w := by
  unfold partOf at h
  split at h
  · rename_i d i hd hi
    split at h
    · rename_i hagg
      split at h
      · rename_i hle
        cases h
        have hle := Nat.ble_iff.1 hle
        simp [part, run_isAgg hd, hagg, run_sizeOf hi, SV1.den, List.extract_eq_take_drop]
      · cases h
    · rename_i hagg
      split at h
      · rename_i x hx
        cases h
        simp [part, run_isAgg hd, hagg, hx, SV1.den]
      · cases h
  · cases h

theorem rdPart_ok {t : TypeId} {x : SV1} {f : Nat} : Vals P e w (Instr.field t (x.den e) f) (rdPart P t x f) := by
  unfold rdPart
  split
  · rename_i fs cs hd
    split
    · rename_i fl hf
      split
      · rename_i v hv
        intro _
        simp [Instr.field, run_underlying hd, hf, SV1.den, asAgg, partOf_ok hv, SV.den]
      · trivial
    · trivial
  · trivial

theorem rdIndex_ok {t : TypeId} {x : SV1} {ix : Operand} {iv : SA} (hix : ∀ v, ix = .const v → iv.den e = v) : Vals P e w (Instr.index t (x.den e) (iv.den e)) (rdIndex P t x ix iv) := by
  unfold rdIndex
  split
  · rename_i len el cs k n hd
    split
    · rename_i inf hinf
      have arr : ∀ (j : Nat) (v : SV1), n = (j : Int) → j < len → partOf P el cs (j * inf.size) = some v → (Instr.index t (SV1.den e (.agg cs)) (.int k n)).run P w = .ok (v.den e) w := by
        intro j v hn hj hv
        subst hn
        have h2 : ((j : Int) < (len : Int)) := by omega
        have := partOf_ok (e := e) (w := w) hv
        simp [Instr.index, SV1.den, asIntOf, run_underlying hd, hj, run_sizeOf hinf] at this ⊢
        exact this
      split
      · rename_i j hcp
        obtain ⟨⟨k', hk⟩, hj⟩ := constPlace_ok hcp
        have hn : n = (j : Int) := by have := hix _ hk; cases this; rfl
        split
        · rename_i v hv
          intro _
          exact arr j v hn hj hv
        · trivial
      · split
        · rename_i hall
          refine places_mem fun _ j hj hn => ?_
          have := List.all_eq_true.1 hall j (by simpa using hj)
          cases hv : partOf P el cs (j * inf.size) with
          | none => rw [hv] at this; cases this
          | some v => exact arr j v hn hj hv
        · trivial
    · trivial
  · trivial

end
end Go.Sx

/-
  Part 7: operators, slices of slices, len.
-/
namespace Go.Sx
open Go.RowKit

section
variable {P : Program} {e e' : Env} {w0 : World} {W : Nat → Prop} {m : Mem} {w : World}

def binRun (op : BinOp) (t : TypeId) (x y : Operand) (u v : Value) : Sem Value := do eqGuard op t x y u v; binOp op t u v

theorem constNot0_ok {y : Operand} (h : constNot0 y = true) {k : IntKind} {b : Int} (hy : ∀ v, y = .const v → .int k b = v) : b ≠ 0 := by
  unfold constNot0 at h
  split at h
  · have := hy _ rfl; cases this; simp; omega
  · have := hy _ rfl; cases this; simp
  · cases h
theorem constNat_ok {y : Operand} (h : constNat y = true) {k : IntKind} {b : Int} (hy : ∀ v, y = .const v → .int k b = v) : 0 ≤ b := by
  unfold constNat at h
  split at h
  · have := hy _ rfl; cases this; simp
  · cases h

theorem rdInt_ok {op : BinOp} {t : TypeId} {x y : Operand} {k : IntKind} {a b : Int} (hy : ∀ v, y = .const v → .int k b = v) : Vals P e w (binRun op t x y (.int k a) (.int k b)) (rdInt op y k a b) := by
  have hb : ∀ {o : Option Prop} {v : SV}, (obp (match constNot0 y with | true => none | false => some (b ≠ 0)) → b ≠ 0) := by
    intro _ _ ho
    cases hc : constNot0 y with
    | true => exact constNot0_ok hc hy
    | false => rw [hc] at ho; exact ho
  have hg : eqGuard op t x y (.int k a) (.int k b) = pure () := eqGuard_at_int ..
  unfold rdInt
  split <;> first
    | (intro ho; simp [binRun, hg, binOp, Op.intArith, int_, SV.den, SV1.den, SA.den]; done)
    | (intro ho
       have hb := hb (o := none) (v := .tup []) ho
       simp [binRun, hg, binOp, Op.intDiv, hb, int_, SV.den, SV1.den, SA.den]; done)
    | (intro ho; simp [binRun, hg, binOp, intBits_and, intBits_or, intBits_xor, intBits_andNot, int_, SV.den, SV1.den, SA.den]; done)
    | (intro ho; simp [binRun, hg, binOp, Op.intCmp, pr_, SV.den, SV1.den, SA.den]; done)
    | (intro ho; simp [binRun, hg, binOp, Op.intCmp, pr_, SV.den, SV1.den, SA.den]; rw [Bool.eq_iff_iff]; simp; done)
    | trivial

theorem eqFs_ok {d : Nat} {R : TypeId → SV1 → SV1 → Option Bool} {xs ys : List SA} : ∀ {l : List Field} {b : Bool}, (∀ f ∈ l, ∀ x y b, R f.type x y = some b → (Op.equalIn d f.type (x.den e) (y.den e)).run P w = .ok b w) → eqFs P R xs ys l = some b →
    (Op.eqFields d (xs.map (SA.den e)).toArray (ys.map (SA.den e)).toArray l).run P w = .ok b w
  | [], b, _, h => by cases h; rfl
  | f :: l, b, hR, h => by
    simp only [eqFs] at h
    split at h
    · rename_i x y hn hx hy
      split at h
      · rename_i a c ha hc
        cases h
        have hn' : f.name ≠ "_" := by simpa using hn
        have ih := eqFs_ok (fun g hg => hR g (List.mem_cons_of_mem _ hg)) hc
        simp only [Op.eqFields, if_pos hn', Sem.run_bind, partOf_ok (e := e) (w := w) hx, partOf_ok (e := e) (w := w) hy, Result.andThen_ok, hR f List.mem_cons_self _ _ _ ha, Sem.run_ite, ih]
        cases a <;> simp
      · cases h
    · cases h

theorem eqIs_ok {d : Nat} {R : TypeId → SV1 → SV1 → Option Bool} {el : TypeId} (hR : ∀ x y b, R el x y = some b → (Op.equalIn d el (x.den e) (y.den e)).run P w = .ok b w) {n : Nat} {xs ys : List SA} : ∀ {l : List Nat} {b : Bool}, eqIs P R el n xs ys l = some b →
    (Op.eqItems d el n (xs.map (SA.den e)).toArray (ys.map (SA.den e)).toArray l).run P w = .ok b w
  | [], b, h => by cases h; rfl
  | i :: l, b, h => by
    simp only [eqIs] at h
    split at h
    · rename_i x y hx hy
      split at h
      · rename_i a c ha hc
        cases h
        have ih := eqIs_ok hR hc
        simp only [Op.eqItems, Sem.run_bind, partOf_ok (e := e) (w := w) hx, partOf_ok (e := e) (w := w) hy, Result.andThen_ok, hR _ _ _ ha, Sem.run_ite, ih]
        cases a <;> simp
      · cases h
    · cases h

theorem eqV_ok : ∀ (d k : Nat) {t : TypeId} {x y : SV1} {b : Bool}, stoodOK P d t = true → eqV P d t x y = some b → (Op.equalIn (d + k) t (x.den e) (y.den e)).run P w = .ok b w
  | 0, k, t, x, y, b, _, h => by cases h
  | d + 1, k, t, x, y, b, hst, h => by
    rw [show d + 1 + k = (d + k) + 1 by omega]
    simp only [eqV] at h
    split at h
    · rename_i hd
      split at h
      · rename_i k1 a k2 b' hk
        cases h
        have hk := kind_eq hk
        subst hk
        simp only [SV1.den, SA.den, run_equalIn_int w _ t _ _ _ _ hd]
        rfl
      · cases h
    · rename_i hd
      split at h
      · rename_i u v ha hb
        cases h
        simp only [SV1.den, boolOf_den ha, boolOf_den hb]
        exact run_equalIn_bool' w _ t _ _ hd
      · cases h
    · rename_i hd
      cases h
      exact run_equalIn_string w _ t _ _ hd
    · rename_i fs xs ys hd
      have hf : P.fieldsOf t = fs := by simp [Program.fieldsOf, hd]
      simp only [stoodOK, hd, Bool.and_eq_true, Bool.not_eq_true', List.all_eq_true] at hst
      simp only [SV1.den]
      rw [run_equalIn_struct w _ t _ _ (by rw [hf]; exact hd) hst.1, hf]
      exact eqFs_ok (fun f hf x y b h => eqV_ok d k (hst.2 f hf) h) h
    · rename_i n el xs ys hd
      split at h
      · rename_i i hi
        simp only [SV1.den]
        rw [run_equalIn_array w _ _ _ hd hi, show P.cellsOf el = i.size by simp [Program.cellsOf, hi]]
        simp only [stoodOK, hd] at hst
        exact eqIs_ok (fun x y b h => eqV_ok d k hst h) h
      · cases h
    · cases h

theorem eqAgg_ok {t : TypeId} {xs ys : List SA} {b : Bool} (ho : EqOK P t) (h : eqV P 8 t (.agg xs) (.agg ys) = some b) {op : BinOp} {x y : Operand} :
    (eqGuard op t x y (.agg (xs.map (SA.den e)).toArray) (.agg (ys.map (SA.den e)).toArray)).run P w = .ok () w ∧ (Op.equal t (.agg (xs.map (SA.den e)).toArray) (.agg (ys.map (SA.den e)).toArray)).run P w = .ok b w := by
  simp only [EqOK, Bool.and_eq_true, Bool.not_eq_true'] at ho
  exact ⟨run_eqGuard_agg w op t x y _ _ ho.1, eqV_ok 8 9992 (e := e) (w := w) ho.2 h⟩

theorem ptr_eql_nil {t el : TypeId} (hd : P.underlying t = some (.pointer el)) (A : Option Addr) : (Op.equal t (.pointer A) (.pointer none)).run P w = .ok A.isNone w := by
  have h1 : ∀ d, (Op.equalIn (d + 1) t (.pointer A) (.pointer none)).run P w = .ok A.isNone w := by
    intro d
    cases A <;> simp [Op.equalIn, run_underlying hd]
  exact h1 9999

theorem nilTest {t el : TypeId} (hd : P.underlying t = some (.pointer el)) {x y : Operand} (A : Option Addr) :
    (binRun .eql t x y (.pointer A) (.pointer none)).run P w = .ok (.bool A.isNone) w ∧ (binRun .neq t x y (.pointer A) (.pointer none)).run P w = .ok (.bool (!A.isNone)) w := by
  have h1 : ∀ op, eqGuard op t x y (.pointer A) (.pointer none) = pure () := fun op => eqGuard_at_pointer ..
  have h2 := ptr_eql_nil (w := w) hd A
  constructor <;> simp [binRun, h1, binOp, h2]

theorem bool_eql {t : TypeId} (hd : P.underlying t = some .bool) {x y : Operand} (a b : Bool) :
    (binRun .eql t x y (.bool a) (.bool b)).run P w = .ok (.bool (a == b)) w ∧ (binRun .neq t x y (.bool a) (.bool b)).run P w = .ok (.bool (!(a == b))) w := by
  have h1 : ∀ op, eqGuard op t x y (.bool a) (.bool b) = pure () := fun op => eqGuard_at_bool ..
  have h2 := run_equal_bool (P := P) (w := w) t a b hd
  constructor <;> simp [binRun, h1, binOp, h2]

theorem shl_ok {k yk : IntKind} {a b : Int} {t : TypeId} {x y : Operand} (hb : 0 ≤ b) : (binRun .shl t x y (.int k a) (.int yk b)).run P w = .ok (.int k (k.wrap (a * 2 ^ min b.toNat k.bits))) w ∧
    (binRun .shr t x y (.int k a) (.int yk b)).run P w = .ok (.int k (a.fdiv (2 ^ min b.toNat k.bits))) w := by
  have h1 : ∀ op, eqGuard op t x y (.int k a) (.int yk b) = pure () := fun op => eqGuard_at_int ..
  have h2 : ¬ b < 0 := by omega
  constructor <;> simp [binRun, h1, binOp, Op.shift, h2]

theorem rdBin_ok (h : Rel e w0 W m w) {op : BinOp} {t : TypeId} {x y : Operand} {xv yv : SV1} (hy : ∀ v, y = .const v → yv.den e = v) : Vals P e w (binRun op t x y (xv.den e) (yv.den e)) (rdBin P m op t y xv yv) := by
  have hsh : ∀ {k yk : IntKind} {a b : Int}, yv = .a (.v (.int yk b)) → obp (match constNat y with | true => none | false => some (0 ≤ b)) → 0 ≤ b := by
    intro k yk a b hyv ho
    cases hc : constNat y with
    | true => exact constNat_ok hc (k := yk) fun v hv => by have := hy v hv; rw [hyv] at this; exact this
    | false => rw [hc] at ho; exact ho
  have lead : ∀ {z : SA}, leads m z = true → (∃ A, z.den e = .pointer (some A)) ∨ ∃ f caps, z = .clo f caps := fun hl => leads_ok h hl
  unfold rdBin
  split
  · intro ho
    exact (shl_ok (hsh (k := .i8) (a := 0) rfl ho)).1
  · intro ho
    exact (shl_ok (hsh (k := .i8) (a := 0) rfl ho)).2
  · rename_i k a k' b _ _
    split
    · rename_i hk
      have hk := kind_eq hk
      subst hk
      exact rdInt_ok fun v hv => hy v hv
    · trivial
  · rename_i z _
    split
    · rename_i el hd
      intro _
      exact (nilTest hd none).1
    · rename_i el _ hd
      split
      · rename_i hl
        intro _
        rcases lead hl with ⟨A, hA⟩ | ⟨_, _, h1⟩
        · simp only [SV1.den, hA]; exact (nilTest hd (some A)).1
        · cases h1
      · rename_i hl
        intro _
        rcases lead hl with ⟨A, hA⟩ | ⟨_, _, h1⟩
        · simp only [SV1.den, hA]; exact (nilTest hd (some A)).1
        · cases h1
      · rename_i hl
        intro _
        rcases lead hl with ⟨A, hA⟩ | ⟨_, _, h1⟩
        · simp only [SV1.den, hA]; exact (nilTest hd (some A)).1
        · cases h1
      · trivial
    · trivial
  · rename_i z _
    split
    · rename_i el hd
      intro _
      exact (nilTest hd none).2
    · rename_i el _ hd
      split
      · rename_i hl
        intro _
        rcases lead hl with ⟨A, hA⟩ | ⟨_, _, h1⟩
        · simp only [SV1.den, hA]; exact (nilTest hd (some A)).2
        · cases h1
      · rename_i hl
        intro _
        rcases lead hl with ⟨A, hA⟩ | ⟨_, _, h1⟩
        · simp only [SV1.den, hA]; exact (nilTest hd (some A)).2
        · cases h1
      · rename_i hl
        intro _
        rcases lead hl with ⟨A, hA⟩ | ⟨_, _, h1⟩
        · simp only [SV1.den, hA]; exact (nilTest hd (some A)).2
        · cases h1
      · trivial
    · trivial
  · rename_i xs ys
    split
    · rename_i b hb
      intro ho
      obtain ⟨h4, h3⟩ := eqAgg_ok (w := w) (e := e) ho hb (op := .eql) (x := x) (y := y)
      simp [binRun, SV1.den, h4, binOp, h3, SV.den, SA.den]
    · trivial
  · rename_i xs ys
    split
    · rename_i b hb
      intro ho
      obtain ⟨h4, h3⟩ := eqAgg_ok (w := w) (e := e) ho hb (op := .neq) (x := x) (y := y)
      simp [binRun, SV1.den, h4, binOp, h3, SV.den, SA.den]
    · trivial
  · rename_i u v _ _
    split
    · rename_i a b _ _
      intro _
      have h1 : eqGuard .eql t x y (.string a) (.string b) = pure () := eqGuard_at_string ..
      simp [binRun, SV1.den, SA.den, h1, binOp, Op.stringOp, SV.den]
    · split
      · rename_i a b ha hb hd
        intro _
        simp only [SV1.den, boolOf_den ha, boolOf_den hb]
        exact (bool_eql hd a b).1
      · trivial
  · rename_i u v _ _
    split
    · rename_i a b _ _
      intro _
      have h1 : eqGuard .neq t x y (.string a) (.string b) = pure () := eqGuard_at_string ..
      simp [binRun, SV1.den, SA.den, h1, binOp, Op.stringOp, SV.den]
    · split
      · rename_i a b ha hb hd
        intro _
        simp only [SV1.den, boolOf_den ha, boolOf_den hb]
        exact (bool_eql hd a b).2
      · trivial
  · trivial

theorem rdUn_ok {op : UnOp} {x : SA} : Vals P e w (Op.unary op (x.den e)) (rdUn op x) := by
  unfold rdUn
  split <;> first
    | (intro _; simp [Op.unary, SA.den, Op.intArith, intBits_xor, int_, SV.den, SV1.den]; done)
    | trivial

theorem rdConv_ok {s d : TypeId} {x : SV1} : Vals P e w (convert s d (x.den e)) (rdConv P s d x) := by
  unfold rdConv
  split
  · rename_i ds k k' n hs hd
    intro _
    simp [convert, run_underlying hs, run_underlying hd, SV1.den, SA.den, Conv.intToInt, int_, SV.den]
  · trivial

theorem natOf_ok {S : St} {a : Act} (ht : RelT e S a) {x : Option Operand} {d n : Nat} {i : Option Int} (h : natOf S x d = some (n, i)) :
    (x = none ∧ n = d ∧ i = none) ∨ ∃ o k v, x = some o ∧ a.eval o = .int k v ∧ n = v.toNat ∧ i = some v := by
  unfold natOf at h
  split at h
  · cases h; exact .inl ⟨rfl, rfl, rfl⟩
  · rename_i o
    split at h
    · rename_i k v hv
      cases h
      exact .inr ⟨o, k, v, rfl, evOk ht hv, rfl, rfl⟩
    · cases h

theorem sliceBounds_ok {S : St} {a : Act} (ht : RelT e S a) {lo hi : Option Operand} {len cap l h : Nat} {ln hn : Option Int} (hl : natOf S lo 0 = some (l, ln)) (hh : natOf S hi len = some (h, hn)) {b : Bool}
    (ho : inB hn cap ∧ inB ln h) :
    (Instr.sliceBounds b len cap (lo.map a.eval) (hi.map a.eval) none).run P w = .ok (l, h, cap) w := by
  have bnd : ∀ (k : IntKind) (v : Int) (y : Nat) (c : BoundsCode), 0 ≤ v → v ≤ (y : Int) → (Instr.sliceBound (.int k v) y c).run P w = .ok v.toNat w := by
    intro k v y c h0 h1
    simp [Instr.sliceBound, asIntOf, h0, h1]
  rcases natOf_ok ht hl with ⟨rfl, rfl, rfl⟩ | ⟨o1, k1, v1, rfl, he1, rfl, rfl⟩ <;> rcases natOf_ok ht hh with ⟨rfl, rfl, rfl⟩ | ⟨o2, k2, v2, rfl, he2, rfl, rfl⟩
  · simp [Instr.sliceBounds]
  · simp [Instr.sliceBounds, he2, bnd _ _ _ _ ho.1.1 ho.1.2]
  · simp [Instr.sliceBounds, he1, bnd _ _ _ _ ho.2.1 ho.2.2]
  · simp [Instr.sliceBounds, he1, he2, bnd _ _ _ _ ho.1.1 ho.1.2, bnd _ _ _ _ ho.2.1 ho.2.2]

theorem rdSlice_ok (h : Rel e w0 W m w) {S : St} {a : Act} (ht : RelT e S a) (hm : S.m = m) {t : TypeId} {x : SA} {lo hi : Option Operand} : Vals P e w (Instr.sliceAt t (x.den e) (lo.map a.eval) (hi.map a.eval) none) (rdSlice P S t x lo hi) := by
  unfold rdSlice
  split
  · rename_i el i st r len cap hd
    split
    · rename_i inf l ln hh hn hinf hl hhi
      split
      · rename_i hst
        have hst := Nat.beq_iff.1 hst
        intro ho
        have hb := sliceBounds_ok (P := P) (w := w) (b := true) ht hl hhi ho
        simp only [Instr.sliceAt, Sem.run_bind, run_underlying hd, Result.andThen_ok, Instr.slice, SA.den, hb, run_sizeOf hinf, Sem.run_pure, SV.den, SV1.den]
        congr 2
        by_cases hc : cap = l
        · rw [if_pos hc, if_pos hc]
        · rw [if_neg hc, if_neg hc]
          subst hst
          unfold at_
          cases e i with
          | none => rfl
          | some A => simp [add_add, Nat.add_mul]
      · trivial
    · trivial
  · rename_i n el i off hd
    split
    · rename_i inf l ln hh hn hinf hl hhi
      split
      · rename_i hst hob
        have hst := Nat.beq_iff.1 hst
        intro ho
        have hb := sliceBounds_ok (P := P) (w := w) (b := false) ht hl hhi ho
        subst hm
        rcases leads_ok h hob with ⟨A, hA⟩ | ⟨_, _, h1⟩
        · have hA' := hA
          simp only [SA.den, at_] at hA
          cases hei : e i with
          | none => rw [hei] at hA; cases hA
          | some B =>
            rw [hei] at hA
            cases hA
            simp only [Instr.sliceAt, Sem.run_bind, run_underlying hd, Result.andThen_ok, SA.den, at_, hei, Option.map_some, Instr.sureAddr, hb, run_sizeOf hinf, Sem.run_pure, SV.den, SV1.den, hst]
            congr 2
            by_cases hc : n = l
            · rw [if_pos hc, if_pos hc]; simp
            · rw [if_neg hc, if_neg hc]; simp [add_add]
        · cases h1
      · trivial
    · trivial
  · trivial

theorem rdLen_ok (h : Rel e w0 W m w) {t ty : TypeId} {x : SV1} : Vals P e w (Builtin.len_ #[t] ty #[x.den e]) (rdLen P m t x) := by
  unfold rdLen
  split
  · rename_i hd
    intro _
    simp [Builtin.len_, run_underlying hd, SV1.den, SA.den, int_, SV.den, goInt]
  · rename_i hd
    intro _
    simp [Builtin.len_, run_underlying hd, SV1.den, SA.den, int_, SV.den, goInt]
  · rename_i hd
    intro _
    simp [Builtin.len_, run_underlying hd, SV1.den, SA.den, int_, SV.den, goInt]
  · rename_i hd
    intro _
    simp [Builtin.len_, run_underlying hd, SV1.den, SA.den, int_, SV.den, goInt]
  · rename_i hd
    split
    · rename_i i _ es k hreg
      intro _
      obtain ⟨a, ha, hh⟩ := (h.reg _ _ (reg_of hreg)).map es k rfl
      have hg : (getObj a.block).run P w = .ok (.map es k) w := by simp [getObj, Sem.run, hh]
      simp [Builtin.len_, run_underlying hd, SV1.den, SA.den, int_, SV.den, goInt, ha, hg]
    · trivial
  · trivial

theorem capsOf_ok {S : St} {a : Act} (ht : RelT e S a) : ∀ {l : List Operand} {r : List (Nat × Nat)}, capsOf S l = some r → l.map a.eval = r.map fun c => Value.pointer (at_ e c.1 c.2)
  | [], _, h => by cases h; rfl
  | x :: l, r, h => by
    simp only [capsOf] at h
    split at h
    · rename_i i off r' hv hr
      cases h
      have ih := capsOf_ok ht hr
      have := evOk ht hv
      simp [ih, this, SV.den, SV1.den, SA.den]
    · cases h

end
end Go.Sx

/-
  Part 7b: append and make.
-/
namespace Go.Sx
open Go.RowKit

section
variable {P : Program} {e e' : Env} {w0 : World} {W : Nat → Prop} {m : Mem} {w : World}

/-- n rows from row r on, cell by cell -/
def rowsL (cols : List Col) (r n : Nat) : List Value := (List.range (n * cols.length)).map fun j => match cols[j % cols.length]? with | some q => q.at_ (r + j / cols.length) | none => undef

theorem rowsL_len (cols : List Col) (r n : Nat) : (rowsL cols r n).length = n * cols.length := by simp [rowsL]
theorem rowsL_get {cols : List Col} {r n j : Nat} (hj : j < n * cols.length) : ∃ q, cols[j % cols.length]? = some q ∧ (rowsL cols r n)[j]? = some (q.at_ (r + j / cols.length)) := by
  have hpos : 0 < cols.length := by
    rcases Nat.eq_zero_or_pos cols.length with h | h
    · rw [h] at hj; omega
    · exact h
  have hlt : j % cols.length < cols.length := Nat.mod_lt _ hpos
  refine ⟨cols[j % cols.length], List.getElem?_eq_getElem hlt, ?_⟩
  simp [rowsL, List.getElem?_map, List.getElem?_range hj, List.getElem?_eq_getElem hlt]

theorem rowsL_cell {A : Option Addr} {rw : Bool} {N : Nat} {cols : List Col} (h : RegOK e w A ⟨rw, .tab N cols⟩) {r n : Nat} (hr : r + n ≤ N) {j : Nat} {u : Value} (hu : (rowsL cols r n)[j]? = some u) :
    ∃ a, A = some a ∧ w.cell? ((a.add (r * cols.length)).add j) = some u := by
  have hj : j < n * cols.length := by rw [← rowsL_len cols r n]; exact (List.getElem?_eq_some_iff.1 hu).1
  obtain ⟨q, hq, hg⟩ := rowsL_get (r := r) hj
  rw [hg] at hu
  cases hu
  have hpos : 0 < cols.length := by
    rcases Nat.eq_zero_or_pos cols.length with h | h
    · rw [h] at hj; omega
    · exact h
  have hd : j / cols.length < n := by rw [Nat.div_lt_iff_lt_mul hpos]; exact hj
  have hc := tab_cell (e := e) (n := N) (cols := cols) (r := r + j / cols.length) (by omega) hq
  obtain ⟨a, ha, hcell, _⟩ := h.cell _ _ hc
  refine ⟨a, ha, ?_⟩
  rw [add_add]
  have : r * cols.length + j = (r + j / cols.length) * cols.length + j % cols.length := by
    rw [Nat.add_mul]
    have := Nat.div_add_mod j cols.length
    rw [Nat.mul_comm] at this
    omega
  rw [this]; exact hcell

def AlikeAt (q p : Col) (z : Value) : Prop := (∃ a g g' n, q = .int a g ∧ p = .int a g' ∧ z = .int a n) ∨ (∃ g g' b, q = .bool g ∧ p = .bool g' ∧ z = .bool b)

theorem alike_get : ∀ {qs ps : List Col} {zs : List Value}, alikeCols qs ps zs = true → qs.length = zs.length ∧ ps.length = zs.length ∧
    ∀ (c : Nat) (q p : Col) (z : Value), qs[c]? = some q → ps[c]? = some p → zs[c]? = some z → AlikeAt q p z
  | [], ps, zs, h => by
    cases ps <;> cases zs <;> simp [alikeCols] at h
    exact ⟨rfl, rfl, fun c q p z h => by simp at h⟩
  | q :: qs, ps, zs, h => by
    cases ps with
    | nil => cases q <;> simp [alikeCols] at h
    | cons p ps =>
      cases zs with
      | nil => cases q <;> cases p <;> simp [alikeCols] at h
      | cons z zs =>
        have key : alikeCols qs ps zs = true ∧ AlikeAt q p z := by
          cases q <;> cases p <;> cases z <;> simp [alikeCols] at h
          · obtain ⟨⟨h1, h2⟩, h3⟩ := h
            have h1 := kind_eq h1
            have h2 := kind_eq h2
            subst h1; subst h2
            exact ⟨h3, .inl ⟨_, _, _, _, rfl, rfl, rfl⟩⟩
          · exact ⟨h, .inr ⟨_, _, _, rfl, rfl, rfl⟩⟩
        obtain ⟨i1, i2, i3⟩ := alike_get key.1
        refine ⟨by simp [i1], by simp [i2], fun c q' p' z' hq hp hz => ?_⟩
        cases c with
        | zero => simp at hq hp hz; subst hq; subst hp; subst hz; exact key.2
        | succ c => simp at hq hp hz; exact i3 c q' p' z' hq hp hz

theorem joinCols_get {len k r' : Nat} {t : Tail} : ∀ {qs ps : List Col} {c0 c : Nat}, qs.length = ps.length →
    (joinCols len k r' t c0 qs ps).length = qs.length ∧ (joinCols len k r' t c0 qs ps)[c]? = (match qs[c]?, ps[c]? with | some q, some p => some (joinCol len k r' t (c0 + c) q p) | _, _ => none)
  | [], [], c0, c, _ => by simp [joinCols]
  | q :: qs, p :: ps, c0, 0, h => by
    have := (joinCols_get (len := len) (k := k) (r' := r') (t := t) (qs := qs) (ps := ps) (c0 := c0 + 1) (c := 0) (by simpa using h)).1
    simp [joinCols, this]
  | q :: qs, p :: ps, c0, c + 1, h => by
    obtain ⟨h1, h2⟩ := joinCols_get (len := len) (k := k) (r' := r') (t := t) (qs := qs) (ps := ps) (c0 := c0 + 1) (c := c) (by simpa using h)
    refine ⟨by simp [joinCols, h1], ?_⟩
    simp only [joinCols, List.getElem?_cons_succ, h2, show c0 + (c + 1) = c0 + 1 + c by omega]
  | [], _ :: _, _, _, h | _ :: _, [], _, _, h => by simp at h

def tailOf (f : Nat → Nat → Value) : Tail := ⟨fun c r => match f c r with | .int _ n => n | _ => 0, fun c r => match f c r with | .bool b => b | _ => false, f⟩

/-- what a joined column holds -/
theorem joinCol_at {len k r' : Nat} {f : Nat → Nat → Value} {c : Nat} {q p : Col} {z : Value} (h : AlikeAt q p z) (r : Nat) (hf : len + k ≤ r → AlikeAt q p (f c r)) :
    (joinCol len k r' (tailOf f) c q p).at_ r = if r < len then q.at_ r else if r < len + k then p.at_ (r' + (r - len)) else f c r := by
  rcases h with ⟨a, g, g', n, rfl, rfl, rfl⟩ | ⟨g, g', b, rfl, rfl, rfl⟩
  · simp only [joinCol, Col.at_]
    split
    · rfl
    · split
      · rfl
      · rcases hf (by omega) with ⟨a', _, _, n', h1, h2, h3⟩ | ⟨_, _, _, h1, _⟩
        · cases h1; simp only [tailOf, h3]
        · cases h1
  · simp only [joinCol, Col.at_]
    split
    · rfl
    · split
      · rfl
      · rcases hf (by omega) with ⟨_, _, _, _, h1, _⟩ | ⟨_, _, b', h1, h2, h3⟩
        · cases h1
        · simp only [tailOf, h3]

/-- the joined rows, cell by cell -/
theorem join_cell {cap len k r' : Nat} {f : Nat → Nat → Value} {qs ps : List Col} {zs : List Value} (hal : alikeCols qs ps zs = true) {j : Nat} {v : Value}
    (hf : ∀ c r q p z, qs[c]? = some q → ps[c]? = some p → zs[c]? = some z → len + k ≤ r → r < cap → AlikeAt q p (f c r))
    (hv : (Con.tab cap (joinCols len k r' (tailOf f) 0 qs ps)).cell e j = some v) :
    ∃ q p, qs[j % qs.length]? = some q ∧ ps[j % qs.length]? = some p ∧ j / qs.length < cap ∧ 0 < qs.length ∧
      v = if j / qs.length < len then q.at_ (j / qs.length) else if j / qs.length < len + k then p.at_ (r' + (j / qs.length - len)) else f (j % qs.length) (j / qs.length) := by
  obtain ⟨h1, h2, h3⟩ := alike_get hal
  have hl : qs.length = ps.length := by omega
  have hjl := (joinCols_get (len := len) (k := k) (r' := r') (t := tailOf f) (c0 := 0) (c := 0) hl).1
  simp only [Con.cell, hjl] at hv
  split at hv
  · rename_i hlt
    have hpos : 0 < qs.length := by
      rcases Nat.eq_zero_or_pos qs.length with h | h
      · rw [(joinCols_get (len := len) (k := k) (r' := r') (t := tailOf f) (c0 := 0) (c := j % qs.length) hl).2] at hv
        rw [List.getElem?_eq_none (by omega)] at hv; cases hv
      · exact h
    have hc : j % qs.length < qs.length := Nat.mod_lt _ hpos
    rw [(joinCols_get (len := len) (k := k) (r' := r') (t := tailOf f) (c0 := 0) (c := j % qs.length) hl).2, List.getElem?_eq_getElem hc, List.getElem?_eq_getElem (show j % qs.length < ps.length by omega)] at hv
    simp only [Option.map_some, Option.some.injEq, Nat.zero_add] at hv
    have hz : zs[j % qs.length]? = some zs[j % qs.length] := List.getElem?_eq_getElem (by omega)
    refine ⟨_, _, List.getElem?_eq_getElem hc, List.getElem?_eq_getElem (by omega), hlt, hpos, ?_⟩
    rw [← hv]
    exact joinCol_at (h3 _ _ _ _ (List.getElem?_eq_getElem hc) (List.getElem?_eq_getElem (by omega)) hz) _ fun hge => hf _ _ _ _ _ (List.getElem?_eq_getElem hc) (List.getElem?_eq_getElem (by omega)) hz hge hlt
  · cases hv

/-! ### Regions that go, or come -/

theorem Rel.same {w' : World} (h : Rel e w0 W m w) (hf : Fr w (fun _ => False) w') : Rel e w0 W m w' := by
  refine ⟨⟨hf.os.trans h.fr.os, hf.tape.trans h.fr.tape, hf.output.trans h.fr.output, Nat.le_trans h.fr.size hf.size, fun b hb hw => ?_⟩, fun i r hi => ?_, h.sep, h.wr⟩
  · rw [hf.block b (by have := h.fr.size; omega) (fun h => h)]
    exact h.fr.block b hb hw
  · have hR := h.reg i r hi
    refine hR.keep fun a ha hs => ?_
    rw [ha] at hR
    exact hf.block _ (hR.lt hs) (fun h => h)


theorem Rel.drop (h : Rel e w0 W m w) (i : Nat) : Rel e w0 W (m.set i none) w := by
  have get : ∀ (q : Nat) (r : Reg), (m.set i none)[q]? = some (some r) → m[q]? = some (some r) := by
    intro q r hq
    by_cases hi : i = q
    · subst hi
      by_cases hl : i < m.length
      · rw [List.getElem?_set_self hl] at hq; cases hq
      · rw [List.getElem?_eq_none (by simp; omega)] at hq; cases hq
    · rwa [List.getElem?_set_ne hi] at hq
  exact ⟨h.fr, fun q r hq => h.reg q r (get q r hq), fun q j rq rj a b hqj hq hj => h.sep q j rq rj a b hqj (get q rq hq) (get j rj hj), fun q r a hq => h.wr q r a (get q r hq)⟩

theorem Mem.ok_drop (h : Mem.ok m = true) (i : Nat) : Mem.ok (m.set i none) = true := by
  unfold Mem.ok at h ⊢
  rw [List.all_eq_true] at h ⊢
  intro x hx
  rcases List.mem_or_eq_of_mem_set hx with hx | rfl
  · have := h x hx
    rw [List.length_set]; exact this
  · rfl

theorem Rel.drew (h : Rel e w0 W m w) : Rel e w0 W m w.drew :=
  h.same ⟨rfl, rfl, rfl, Nat.le_refl _, fun _ _ _ => rfl⟩

theorem Rel.weaken (h : Rel e w0 W m w) {i N : Nat} {c : Con} {cols : List Col} (hi : m[i]? = some (some ⟨true, c⟩)) (hc : ∀ j v, (Con.tab N cols).cell e j = some v → c.cell e j = some v) : Rel e w0 W (m.set i (some ⟨true, .tab N cols⟩)) w := by
  have hil : i < m.length := (List.getElem?_eq_some_iff.1 hi).1
  have hs : (Con.tab N cols).some_ → c.some_ := by
    rintro ⟨hn, hcl⟩
    cases cols with
    | nil => exact absurd rfl hcl
    | cons q l => exact Con.some_of_cell (hc 0 (q.at_ 0) (by simp [Con.cell, hn]))
  have get : ∀ (q : Nat) (r : Reg), (m.set i (some ⟨true, .tab N cols⟩))[q]? = some (some r) → ∃ r' : Reg, m[q]? = some (some r') ∧ (r.rw = true → r'.rw = true) ∧ (r.con.some_ → r'.con.some_) := by
    intro q r hq
    by_cases hiq : i = q
    · subst hiq
      rw [List.getElem?_set_self hil] at hq
      cases hq
      exact ⟨_, hi, fun _ => rfl, hs⟩
    · rw [List.getElem?_set_ne hiq] at hq
      exact ⟨r, hq, id, id⟩
  refine ⟨h.fr, fun q r hq => ?_, fun q j rq rj a b hqj hq hj hrw hsq hsj ha hb => ?_, fun q r a hq hrw hsq ha => ?_⟩
  · by_cases hiq : i = q
    · subst hiq
      rw [List.getElem?_set_self hil] at hq
      cases hq
      have hR := h.reg i _ hi
      exact ⟨fun j v hv => hR.cell j v (hc j v hv), fun es k hm => by cases hm⟩
    · rw [List.getElem?_set_ne hiq] at hq
      exact h.reg q r hq
  · obtain ⟨rq', h1, h2, h3⟩ := get q rq hq
    obtain ⟨rj', h4, _, h5⟩ := get j rj hj
    exact h.sep q j rq' rj' a b hqj h1 h4 (h2 hrw) (h3 hsq) (h5 hsj) ha hb
  · obtain ⟨rq', h1, h2, h3⟩ := get q r hq
    exact h.wr q rq' a h1 (h2 hrw) (h3 hsq) ha

/-- A region comes whose block no other region has. -/
theorem Rel.push (h : Rel e w0 W m w) (hag : ∀ i, i < m.length → e' i = e i) (hok : Mem.ok m = true) {A : Option Addr} (hn : e' m.length = A) {r : Reg} (hr : RegOK e' w A r)
    (hsep : r.con.some_ → ∀ (j : Nat) (rj : Reg) (a b : Addr), m[j]? = some (some rj) → rj.con.some_ → A = some a → e j = some b → a.block ≠ b.block) (hwr : r.con.some_ → ∀ a, A = some a → W a.block ∨ w0.heap.size ≤ a.block) :
    Rel e' w0 W (m ++ [some r]) w := by
  have hget : ∀ i r', (m ++ [some r])[i]? = some (some r') → (m[i]? = some (some r') ∧ i < m.length) ∨ (i = m.length ∧ r' = r) := by
    intro i r' hi
    rcases Nat.lt_or_ge i m.length with hlt | hge
    · rw [List.getElem?_append_left hlt] at hi
      exact .inl ⟨hi, hlt⟩
    · rw [List.getElem?_append_right hge] at hi
      rcases Nat.eq_zero_or_pos (i - m.length) with h0 | h0
      · rw [h0] at hi; simp at hi; exact .inr ⟨by omega, hi.symm⟩
      · rw [List.getElem?_eq_none (by simp; omega)] at hi; cases hi
  refine ⟨h.fr, ?_, ?_, ?_⟩
  · intro i r' hi
    rcases hget i r' hi with ⟨hi, hlt⟩ | ⟨rfl, rfl⟩
    · rw [hag i hlt]
      have h2 := h.reg i r' hi
      refine ⟨fun j v hv => ?_, h2.map⟩
      rw [Con.congr hag (Mem.ok_get hok hi)] at hv
      exact h2.cell j v hv
    · rw [hn]; exact hr
  · intro i j ri rj a b hij hi hj hrw hsi hsj ha hb
    rcases hget i ri hi with ⟨hi1, hil⟩ | ⟨hi1, hi2⟩ <;> rcases hget j rj hj with ⟨hj1, hjl⟩ | ⟨hj1, hj2⟩
    · rw [hag i hil] at ha
      rw [hag j hjl] at hb
      exact h.sep i j ri rj a b hij hi1 hj1 hrw hsi hsj ha hb
    · subst hj2
      rw [hj1, hn] at hb
      rw [hag i hil] at ha
      exact (hsep hsj i ri b a hi1 hsi hb ha).symm
    · subst hi2
      rw [hi1, hn] at ha
      rw [hag j hjl] at hb
      exact hsep hsi j rj a b hj1 hsj ha hb
    · exact absurd (hi1.trans hj1.symm) hij
  · intro i ri a hi hrw hs ha
    rcases hget i ri hi with ⟨hi, hil⟩ | ⟨rfl, rfl⟩
    · rw [hag i hil] at ha
      exact h.wr i ri a hi hrw hs ha
    · rw [hn] at ha
      exact hwr hs a ha

/-! ### append -/

def goneR : Option Nat → Mem → Mem
  | none, m => m
  | some i, m => m.set i none

theorem run_append_zero {t el : TypeId} {i : TypeInfo} (ht : P.underlying t = some (.slice el)) (hi : P.info? el = some i) {A B : Option Addr} {n c c' : Nat} (hn : n ≤ c) (ty : TypeId) (w : World) :
    (Builtin.append_ #[t, t] ty #[.slice A n c, .slice B 0 c']).run P w = .ok (.slice A n c) w := by
  have h1 : (Builtin.firstCells i.size 0 (.slice B 0 c')).run P w = .ok #[] w := by
    cases B with
    | none => simp [Builtin.firstCells]
    | some b => exact run_firstCells_some (P := P) w i.size 0 b 0 c' [] (by simp) (fun j v h => by simp at h)
  cases A <;> simp [Builtin.append_, run_underlying ht, sizeOf, typeInfo, hi, Builtin.lenOf, hn, h1, storeCells]

theorem run_append_in {t el : TypeId} {i : TypeInfo} (ht : P.underlying t = some (.slice el)) (hi : P.info? el = some i) {a b : Addr} {n c k c' : Nat} {news : List Value} (hl : news.length = k * i.size)
    (hnews : ∀ j u, news[j]? = some u → w.cell? (b.add j) = some u) (hroom : n + k ≤ c) {w' : World} (hst : (storeCells (a.add (n * i.size)) news).run P w = .ok () w') (ty : TypeId) :
    (Builtin.append_ #[t, t] ty #[.slice (some a) n c, .slice (some b) k c']).run P w = .ok (.slice (some a) (n + k) c) w' := by
  have hf := run_firstCells_some (P := P) w i.size k b k c' news hl hnews
  simp [Builtin.append_, run_underlying ht, sizeOf, typeInfo, hi, Builtin.lenOf, hroom, hf, hst]

/-- the new block's cells, of a joined table -/
theorem grown_cells {qs ps : List Col} {zs : Array Value} (hal : alikeCols qs ps zs.toList = true) {len k r' cap : Nat} (hcap : len + k ≤ cap) {j : Nat} {v : Value}
    (hv : (Con.tab cap (joinCols len k r' (tailOf fun c _ => zs[c]!) 0 qs ps)).cell e j = some v) :
    ((rowsL qs 0 len).toArray ++ (rowsL ps r' k).toArray ++ Builtin.zeroCells zs (cap - (len + k)))[j]? = some v := by
  obtain ⟨hq, hp, hz⟩ := alike_get hal
  obtain ⟨q, p, h1, h2, h3, hpos, h4⟩ := join_cell hal (fun c r q p z hq hp hz' _ _ => by
    have : zs[c]! = z := by
      rw [Array.getElem?_toList] at hz'
      simp [getElem!_def, hz']
    rw [this]; exact hz c q p z hq hp hz') hv
  have hps : ps.length = qs.length := by omega
  have hjd := Nat.div_add_mod j qs.length
  rw [Nat.mul_comm] at hjd
  have hjm : j % qs.length < qs.length := Nat.mod_lt _ hpos
  have key : ∀ n, j / qs.length < n ↔ j < n * qs.length := fun n => Nat.div_lt_iff_lt_mul hpos
  have hs1 : (rowsL qs 0 len).toArray.size = len * qs.length := by simp [rowsL_len]
  have hs2 : (rowsL ps r' k).toArray.size = k * qs.length := by simp [rowsL_len, hps]
  rw [h4]
  rw [Array.getElem?_append, Array.size_append, hs1, hs2, Array.getElem?_append, hs1]
  by_cases ha : j / qs.length < len
  · have ha' := (key len).1 ha
    rw [if_pos (by omega), if_pos ha', if_pos ha]
    obtain ⟨q', hq', hg⟩ := rowsL_get (r := 0) ha'
    rw [h1] at hq'; cases hq'
    rw [Nat.zero_add] at hg
    simpa using hg
  · rw [if_neg ha]
    have ha' : ¬ j < len * qs.length := fun h => ha ((key len).2 h)
    by_cases hb : j / qs.length < len + k
    · have hb' := (key (len + k)).1 hb
      rw [Nat.add_mul] at hb'
      rw [if_pos hb', if_neg ha', if_pos hb]
      have hmod : (j - len * qs.length) % qs.length = j % qs.length := by
        rw [show j = (j - len * qs.length) + len * qs.length by omega, Nat.add_mul_mod_self_right, Nat.add_sub_cancel]
      have hdiv : (j - len * qs.length) / qs.length = j / qs.length - len := by
        rw [Nat.mul_comm len, Nat.sub_mul_div]
      obtain ⟨p', hp', hg⟩ := rowsL_get (cols := ps) (r := r') (n := k) (j := j - len * qs.length) (by rw [hps]; omega)
      rw [hps, hmod, h2] at hp'; cases hp'
      rw [hps, hdiv] at hg
      simpa using hg
    · rw [if_neg hb]
      have hb' : ¬ j < len * qs.length + k * qs.length := by rw [← Nat.add_mul]; exact fun h => hb ((key _).2 h)
      rw [if_neg hb']
      have hc' := (key cap).1 h3
      have hzl : zs.size = qs.length := by simpa using hq.symm
      have hmod : (j - (len * qs.length + k * qs.length)) % qs.length = j % qs.length := by
        rw [← Nat.add_mul] at hb' ⊢
        rw [show j = (j - (len + k) * qs.length) + (len + k) * qs.length by omega, Nat.add_mul_mod_self_right, Nat.add_sub_cancel]
      have hlt : j - (len * qs.length + k * qs.length) < (cap - (len + k)) * zs.size := by
        rw [hzl, Nat.sub_mul, Nat.add_mul]; rw [← Nat.add_mul] at hb' ⊢; omega
      unfold Builtin.zeroCells
      rw [Array.getElem?_map, Array.getElem?_range, if_pos hlt]
      simp [hzl, hmod]

theorem rdAppend_ok (h : Rel e w0 W m w) (hok : Mem.ok m = true) {t : TypeId} {x y : SA} {ob : Prop} {gone : Option Nat} {st len : Nat} {reg : Nat → Tail → Reg} (hr : rdAppend P m t x y = .app ob gone st len reg) (ho : ob) :
    ∃ (cap : Nat) (tl : Tail) (A : Option Addr) (w' : World), len ≤ cap ∧ cap ≤ 9223372036854775807 ∧ (∀ ty, (Builtin.append_ #[t, t] ty #[x.den e, y.den e]).run P w = .ok (.slice A len cap) w') ∧
      ∀ e' : Env, (∀ i, i < m.length → e' i = e i) → e' m.length = A → Rel e' w0 W (goneR gone m ++ [some (reg cap tl)]) w' := by
  unfold rdAppend at hr
  split at hr
  · rename_i el j st' r' k cy hd
    split at hr
    · rename_i inf rwy N' cols' hinf hregy
      split at hr
      · rename_i z hz hst hcl hst0
        have hst := Nat.beq_iff.1 hst
        have hcl := Nat.beq_iff.1 hcl
        have hst0 : st' ≠ 0 := by intro h0; rw [h0] at hst0; simp at hst0
        subst hcl
        have hRy := h.reg j _ (reg_of hregy)
        have hzs : ∀ {qs : List Col}, alikeCols qs cols' z.cells.toList = true → z.cells.size = cols'.length ∧ qs.length = cols'.length := by
          intro qs hal
          obtain ⟨h1, h2, _⟩ := alike_get hal
          have h3 : z.cells.toList.length = z.cells.size := Array.length_toList
          omega
        -- a new block
        have grow : ∀ {m1 : Mem} {qs : List Col} {ln kk : Nat} {tt : TypeId}, alikeCols qs cols' z.cells.toList = true → m1.length = m.length → Mem.ok m1 = true → Rel e w0 W m1 w → ∀ (cap : Nat), ln + kk ≤ cap → ∀ e' : Env, (∀ i, i < m.length → e' i = e i) →
            e' m.length = some ⟨w.heap.size, 0, none⟩ → Rel e' w0 W (m1 ++ [some ⟨true, .tab cap (joinCols ln kk r' (tailOf fun c _ => z.cells[c]!) 0 qs cols')⟩])
              (w.drew.alloc (.cells ((rowsL qs 0 ln).toArray ++ (rowsL cols' r' kk).toArray ++ Builtin.zeroCells z.cells (cap - (ln + kk))) tt)) := by
          intro m1 qs ln kk tt hal hml hok1 h1 cap hcap e' hag hn
          refine h1.drew.alloc (fun i hi => hag i (by omega)) (by rw [hml]; exact hn) hok1 ⟨fun jj v hv => ⟨_, rfl, ?_, fun _ => frozen_new _ _ _ _⟩, fun es q hm => by cases hm⟩
          have := cell_new w.drew ((rowsL qs 0 ln).toArray ++ (rowsL cols' r' kk).toArray ++ Builtin.zeroCells z.cells (cap - (ln + kk))) tt jj
          rw [show w.drew.heap.size = w.heap.size from rfl] at this
          rw [show w.drew.heap.size = w.heap.size from rfl, this]
          exact grown_cells hal hcap hv
        split at hr
        · -- onto nil
          split at hr
          · rename_i hal
            obtain ⟨rfl, rfl, rfl, rfl, rfl⟩ := R.app.inj hr
            obtain ⟨ho1, ho2, ho3⟩ := ho
            obtain ⟨hzs1, _⟩ := hzs hal
            rcases Nat.eq_zero_or_pos k with hk | hk
            · subst hk
              refine ⟨0, tailOf fun _ _ => undef, none, w, Nat.le_refl _, by omega, fun ty => ?_, fun e' hag hn => ?_⟩
              · exact run_append_zero hd hinf (Nat.le_refl 0) ty w
              · refine h.push hag hok hn ⟨fun jj v hv => ?_, fun es q hm => by cases hm⟩ (fun hs => absurd hs.1 (by simp)) (fun hs => absurd hs.1 (by simp))
                simp [Con.cell] at hv
            · obtain ⟨a, ha, _⟩ := rowsL_cell hRy ho1 (j := 0) (u := _) ((rowsL_get (cols := cols') (r := r') (n := k) (j := 0) (Nat.mul_pos hk (by omega))).choose_spec.2)
              refine ⟨grownCap w k 0 el, tailOf fun c _ => z.cells[c]!, some ⟨w.heap.size, 0, none⟩, _, grownCap_ge w k 0 el, ?_, fun ty => ?_, fun e' hag hn => grow (qs := cols') (ln := 0) (tt := el) hal rfl hok h _ (by simpa using grownCap_ge w k 0 el) e' hag hn⟩
              · exact grownCap_le_maxLen w k 0 el (by simp only [maxLen]; omega)
              · have := run_append_nil (P := P) w t ty el inf z hd hinf hz (a.add (r' * cols'.length)) k cy (rowsL cols' r' k) (by rw [rowsL_len, hst]) (fun jj u hu => by
                  obtain ⟨a', ha', hcell⟩ := rowsL_cell hRy ho1 hu
                  rw [ha] at ha'; cases ha'; exact hcell) hk (by omega) (by omega)
                simp only [SA.den, at_, ha, Option.map_some]
                rw [this]
                simp [rowsL]
          · cases hr
        · -- onto a known one
          rename_i i sti r ln cap
          split at hr
          · rename_i N cols hregx hst2 hr0 hij
            have hst2 := Nat.beq_iff.1 hst2
            have hr0 := Nat.beq_iff.1 hr0
            have hij : i ≠ j := by intro h0; rw [h0] at hij; simp at hij
            subst hst2
            subst hr0
            split at hr
            · rename_i hal
              obtain ⟨rfl, rfl, rfl, rfl, rfl⟩ := R.app.inj hr
              obtain ⟨ho1, ho2, ho3, ho4, ho5, ho6⟩ := ho
              obtain ⟨hzs1, hqs⟩ := hzs hal
              have hmi := reg_of hregx
              have hRx := h.reg i _ hmi
              have hil : i < m.length := (List.getElem?_eq_some_iff.1 hmi).1
              have hx0 : ∀ e : Env, SA.den e (.slc i cols'.length 0 ln cap) = .slice (e i) ln cap := by
                intro e
                cases he : e i <;> simp [SA.den, at_, he, Addr.add_zero']
              -- what stands in place
              have stay : ∀ {w' : World} (A : Option Addr), e i = A → Rel e w0 W (m.set i (some ⟨true, .tab cap (joinCols ln k r' (tailOf fun c r => match cols[c]? with | some q => q.at_ r | none => undef) 0 cols cols')⟩)) w' → ∀ e' : Env, (∀ i, i < m.length → e' i = e i) → e' m.length = A →
                  Rel e' w0 W (m.set i none ++ [some ⟨true, .tab cap (joinCols ln k r' (tailOf fun c r => match cols[c]? with | some q => q.at_ r | none => undef) 0 cols cols')⟩]) w' := by
                intro w' A hA h2 e' hag hn
                have h3 := h2.drop i
                rw [List.set_set] at h3
                have hgi : (m.set i (some (⟨true, .tab cap (joinCols ln k r' (tailOf fun c r => match cols[c]? with | some q => q.at_ r | none => undef) 0 cols cols')⟩ : Reg)))[i]? = some (some ⟨true, .tab cap (joinCols ln k r' (tailOf fun c r => match cols[c]? with | some q => q.at_ r | none => undef) 0 cols cols')⟩) := List.getElem?_set_self hil
                have h4 := h2.reg i _ hgi
                have hlen : (m.set i none).length = m.length := by simp
                refine h3.push (A := A) (fun q hq => hag q (by rw [hlen] at hq; exact hq)) (Mem.ok_drop hok i) (by rw [hlen]; exact hn) ?_ ?_ ?_
                · rw [← hA]; exact ⟨h4.cell, h4.map⟩
                · intro hs q rq a b hq hsq ha hb
                  have hqi : q ≠ i := by
                    rintro rfl
                    rw [List.getElem?_set_self hil] at hq; cases hq
                  rw [List.getElem?_set_ne (Ne.symm hqi)] at hq
                  exact h2.sep i q _ rq a b (Ne.symm hqi) hgi (by rw [List.getElem?_set_ne (Ne.symm hqi)]; exact hq) rfl hs hsq (hA.trans ha) hb
                · intro hs a ha
                  exact h2.wr i _ a hgi rfl hs (hA.trans ha)
              -- each of its cells
              have cells : ∀ jj v, (Con.tab cap (joinCols ln k r' (tailOf fun c r => match cols[c]? with | some q => q.at_ r | none => undef) 0 cols cols')).cell e jj = some v →
                  if ln * cols.length ≤ jj ∧ jj < ln * cols.length + (rowsL cols' r' k).length then (rowsL cols' r' k)[jj - ln * cols.length]? = some v else (Con.tab N cols).cell e jj = some v := by
                intro jj v hv
                obtain ⟨q, p, h1, h2, h3, hpos, h4⟩ := join_cell hal (fun c r q p z' hq hp hz' _ _ => by
                  have hal3 := (alike_get hal).2.2 c q p z' hq hp hz'
                  simp only [hq]
                  rcases hal3 with ⟨a, g, g', n, rfl, rfl, rfl⟩ | ⟨g, g', b, rfl, rfl, rfl⟩
                  · exact .inl ⟨a, g, g', g r, rfl, rfl, rfl⟩
                  · exact .inr ⟨g, g', g r, rfl, rfl, rfl⟩) hv
                have key : ∀ n, jj / cols.length < n ↔ jj < n * cols.length := fun n => Nat.div_lt_iff_lt_mul hpos
                rw [rowsL_len, ← hqs]
                by_cases hb : ln * cols.length ≤ jj ∧ jj < ln * cols.length + k * cols.length
                · rw [if_pos hb]
                  have h5 : ¬ jj / cols.length < ln := fun hh => by have := (key ln).1 hh; omega
                  have h6 : jj / cols.length < ln + k := (key _).2 (by rw [Nat.add_mul]; exact hb.2)
                  rw [if_neg h5, if_pos h6] at h4
                  have hmod : (jj - ln * cols.length) % cols.length = jj % cols.length := by
                    have := hb.1
                    rw [show jj = (jj - ln * cols.length) + ln * cols.length by omega, Nat.add_mul_mod_self_right, Nat.add_sub_cancel]
                  have hdiv : (jj - ln * cols.length) / cols.length = jj / cols.length - ln := by
                    rw [Nat.mul_comm ln, Nat.sub_mul_div]
                  obtain ⟨p', hp', hg⟩ := rowsL_get (cols := cols') (r := r') (n := k) (j := jj - ln * cols.length) (by rw [← hqs]; omega)
                  rw [← hqs, hmod, h2] at hp'; cases hp'
                  rw [← hqs, hdiv] at hg
                  rw [hg, h4]
                · rw [if_neg hb]
                  have h7 : jj / cols.length < N := by omega
                  simp only [Con.cell, if_pos h7, h1, Option.map_some]
                  rw [h4]
                  by_cases h5 : jj / cols.length < ln
                  · rw [if_pos h5]
                  · rw [if_neg h5]
                    have h6 : ¬ jj / cols.length < ln + k := fun hh => by
                      have h8 := (key (ln + k)).1 hh
                      rw [Nat.add_mul] at h8
                      have h9 : ¬ jj < ln * cols.length := fun hh => h5 ((key ln).2 hh)
                      omega
                    rw [if_neg h6, h1]
              rcases Nat.eq_zero_or_pos k with hk | hk
              · subst hk
                refine ⟨cap, _, e i, w, by omega, ho3, fun ty => ?_, stay (e i) rfl (h.weaken hmi fun jj v hv => ?_)⟩
                · rw [hx0]; exact run_append_zero hd hinf ho1 ty w
                · have := cells jj v hv
                  rw [rowsL_len, Nat.zero_mul, if_neg (by omega)] at this
                  exact this
              · obtain ⟨b, hb, _⟩ := rowsL_cell hRy ho4 (j := 0) (u := _) ((rowsL_get (cols := cols') (r := r') (n := k) (j := 0) (Nat.mul_pos hk (by omega))).choose_spec.2)
                have hnews : ∀ jj u, (rowsL cols' r' k)[jj]? = some u → w.cell? ((b.add (r' * cols'.length)).add jj) = some u := fun jj u hu => by
                  obtain ⟨a', ha', hcell⟩ := rowsL_cell hRy ho4 hu
                  rw [hb] at ha'; cases ha'; exact hcell
                have hnl : (rowsL cols' r' k).length = k * inf.size := by rw [rowsL_len, hst]
                have hy : SA.den e (.slc j cols'.length r' k cy) = .slice (some (b.add (r' * cols'.length))) k cy := by simp [SA.den, at_, hb]
                by_cases hroom : ln + k ≤ cap
                · -- there is room
                  have hcpos : 0 < cols.length := by omega
                  obtain ⟨q0, hq0, _⟩ := rowsL_get (cols := cols) (r := 0) (n := N) (j := 0) (Nat.mul_pos (by omega) hcpos)
                  rw [Nat.zero_mod] at hq0
                  obtain ⟨a, ha, _⟩ := hRx.cell _ _ (tab_cell (e := e) (n := N) (r := 0) (by omega) hq0)
                  have hne : rowsL cols' r' k ≠ [] := by
                    intro h0
                    have := rowsL_len cols' r' k
                    rw [h0] at this
                    have := Nat.mul_pos hk (show 0 < cols'.length by omega)
                    simp at *; omega
                  obtain ⟨w', hst', hrel'⟩ := h.write (P := P) hmi ha (off := ln * cols.length) hne (fun v hv => by
                    obtain ⟨jj, hjj, rfl⟩ := List.getElem_of_mem hv
                    obtain ⟨p, hp, hg⟩ := rowsL_get (cols := cols') (r := r') (n := k) (j := jj) (by rw [← rowsL_len cols' r' k]; exact hjj)
                    rw [List.getElem?_eq_getElem hjj] at hg
                    rw [Option.some.inj hg]
                    have hc : jj % cols'.length < cols'.length := Nat.mod_lt _ (by omega)
                    obtain ⟨h1, h2, h3⟩ := alike_get hal
                    have hc1 : jj % cols'.length < cols.length := by omega
                    have hc2 : jj % cols'.length < z.cells.toList.length := by omega
                    rcases h3 (jj % cols'.length) _ p _ (List.getElem?_eq_getElem hc1) hp (List.getElem?_eq_getElem hc2) with ⟨_, _, _, _, _, h9, _⟩ | ⟨_, _, _, _, h9, _⟩ <;> (rw [h9]; rfl)) (fun jj hjj => by
                    rw [rowsL_len, ← hqs] at hjj
                    have hd' : (ln * cols.length + jj) / cols.length < N := by
                      rw [Nat.div_lt_iff_lt_mul hcpos]
                      have : (ln + k) * cols.length ≤ N * cols.length := Nat.mul_le_mul_right _ (by omega)
                      rw [Nat.add_mul] at this
                      omega
                    exact ⟨(cols[(ln * cols.length + jj) % cols.length]'(Nat.mod_lt _ hcpos)).at_ ((ln * cols.length + jj) / cols.length), by
                      simp only [Con.cell, if_pos hd', List.getElem?_eq_getElem (Nat.mod_lt (ln * cols.length + jj) hcpos), Option.map_some]⟩) cells (fun es q hm => by cases hm)
                  refine ⟨cap, _, some a, w', hroom, ho3, fun ty => ?_, stay (some a) ha hrel'⟩
                  rw [hx0, hy, ha]
                  exact run_append_in hd hinf hnl hnews hroom (by rw [← hst, ← hqs]; exact hst') ty
                · -- a new block
                  have hge := grownCap_ge w (ln + k) cap el
                  refine ⟨grownCap w (ln + k) cap el, tailOf fun c _ => z.cells[c]!, some ⟨w.heap.size, 0, none⟩, _, hge, grownCap_le_maxLen w (ln + k) cap el (by simp only [maxLen]; omega), fun ty => ?_,
                    fun e' hag hn => grow (m1 := m.set i none) (qs := cols) (ln := ln) (tt := el) hal (by simp) (Mem.ok_drop hok i) (h.drop i) _ hge e' hag hn⟩
                  rw [hx0, hy]
                  cases hA : e i with
                  | some a =>
                    refine run_append_grow (P := P) w t ty el inf z hd hinf hz a ln cap (rowsL cols 0 ln) (by rw [rowsL_len, hqs, hst]) (fun jj u hu => ?_) (b.add (r' * cols'.length)) k cy _ hnl hnews (by omega) (by omega) (growslice_fits (by omega) ho5)
                    obtain ⟨a', ha', hcell⟩ := rowsL_cell hRx (show 0 + ln ≤ N by omega) hu
                    rw [hA] at ha'; cases ha'
                    rw [Nat.zero_mul, Addr.add_zero'] at hcell
                    exact hcell
                  | none =>
                    have hN : cap = 0 := by
                      rcases Nat.eq_zero_or_pos cap with h0 | h0
                      · exact h0
                      · have hcpos : 0 < cols.length := by omega
                        obtain ⟨q0, hq0, _⟩ := rowsL_get (cols := cols) (r := 0) (n := N) (j := 0) (Nat.mul_pos (by omega) hcpos)
                        rw [Nat.zero_mod] at hq0
                        obtain ⟨a, ha, _⟩ := hRx.cell _ _ (tab_cell (e := e) (n := N) (r := 0) (by omega) hq0)
                        rw [hA] at ha; cases ha
                    subst hN
                    obtain rfl : ln = 0 := by omega
                    have := run_append_nil (P := P) w t ty el inf z hd hinf hz (b.add (r' * cols'.length)) k cy (rowsL cols' r' k) hnl hnews hk (by omega) (by rw [Nat.zero_add] at ho5; omega)
                    rw [this]
                    simp [rowsL]
            · cases hr
          · cases hr
        · cases hr
      · cases hr
    · cases hr
  · cases hr

theorem zeroCol_at (v : Value) (r : Nat) : (zeroCol v).at_ r = v := by
  unfold zeroCol
  split <;> rfl

theorem rdMake_ok {t : TypeId} {k1 k2 : IntKind} {l c : Int} {ob : Option Prop} {r : Reg} {f : Nat → SV} (hr : rdMake P t l c = .new ob r f) (ho : obp ob) :
    ∃ o', (Instr.makeSlice t (.int k1 l) (.int k2 c)).run P w = .ok (.slice (some ⟨w.heap.size, 0, none⟩) l.toNat c.toNat) (w.alloc o') ∧ (∃ st, ∀ j, f j = .one (.a (.slc j st 0 l.toNat c.toNat))) ∧
      ∀ e' : Env, RegOK e' (w.alloc o') (some ⟨w.heap.size, 0, none⟩) r := by
  unfold rdMake at hr
  split at hr
  · rename_i el hd
    split at hr
    · rename_i inf hinf
      split at hr
      · rename_i z hz
        split at hr
        · rename_i h1 h2
          cases hr
          have h1 := Nat.beq_iff.1 h1
          have h2 : inf.size ≠ 0 := by intro h0; rw [h0] at h2; simp at h2
          obtain ⟨o1, o2, o3, o4⟩ := ho
          refine ⟨_, run_make w t el inf z hd hinf hz k1 k2 l c o1 o2 (by rw [Int.mul_comm]; exact o4) o3, ⟨_, fun _ => rfl⟩, fun e' => ⟨fun j v hv => ⟨_, rfl, ?_, fun _ => frozen_new _ _ _ _⟩, fun es k hm => by cases hm⟩⟩
          rw [cell_new]
          have hl : (z.cells.toList.map zeroCol).length = inf.size := by rw [List.length_map, Array.length_toList, h1]
          simp only [Con.cell, hl] at hv
          split at hv
          · rename_i hlt
            have hpos : 0 < inf.size := by omega
            have hj : j < c.toNat * inf.size := (Nat.div_lt_iff_lt_mul hpos).1 hlt
            have hm : j % inf.size < inf.size := Nat.mod_lt _ hpos
            have hm' : j % inf.size < z.cells.size := by omega
            rw [List.getElem?_map, Array.getElem?_toList, Array.getElem?_eq_getElem hm'] at hv
            simp only [Option.map_some, zeroCol_at, Option.some.injEq] at hv
            unfold madeCells
            rw [Array.getElem?_map, Array.getElem?_range, if_pos hj]
            simp [h1, getElem!_def, Array.getElem?_eq_getElem hm', hv]
          · cases hv
        · cases hr
      · cases hr
    · cases hr
  · cases hr

end
end Go.Sx

/-
  Part 8: what 'rdOp' says of an operation is what the operation does.
-/
namespace Go.Sx
open Go.RowKit

section
variable {P : Program} {e : Env} {w0 : World} {W : Nat → Prop} {w : World} {S : St} {a : Act} {o : Oper}

def Good (P : Program) (e : Env) (w0 : World) (W : Nat → Prop) (S : St) (a : Act) (w : World) (o : Oper) : R → Prop
  | .val ob v => obp ob → (execOp a.eval o).run P w = .ok (.value (v.den e)) w
  | .alts ob l => ob → ∃ pv ∈ l, pv.1 ∧ (execOp a.eval o).run P w = .ok (.value (pv.2.den e)) w
  | .new ob r f => obp ob → r.con.ok S.m.length = true → ∃ o', ∀ e' : Env, (∀ i, i < S.m.length → e' i = e i) → e' S.m.length = some ⟨w.heap.size, 0, none⟩ →
      (execOp a.eval o).run P w = .ok (.value ((f S.m.length).den e')) (w.alloc o') ∧ RegOK e' (w.alloc o') (some ⟨w.heap.size, 0, none⟩) r
  | .wr ob i r => obp ob → ∃ w', (execOp a.eval o).run P w = .ok .skip w' ∧ Rel e w0 W (S.m.set i (some r)) w'
  | .app ob gone st len reg => ob → Mem.ok S.m = true → ∃ (cap : Nat) (tl : Tail) (A : Option Addr) (w' : World), len ≤ cap ∧ cap ≤ 9223372036854775807 ∧ (execOp a.eval o).run P w = .ok (.value (.slice A len cap)) w' ∧
      ∀ e' : Env, (∀ i, i < S.m.length → e' i = e i) → e' S.m.length = A → Rel e' w0 W (goneR gone S.m ++ [some (reg cap tl)]) w'
  | .bad | .call .. => True

theorem good_of_vals {s : Sem Value} {r : R} (hv : Vals P e w s r) (hs : execOp a.eval o = do pure (.value (← s))) : Good P e w0 W S a w o r := by
  cases r with
  | val ob v => intro ho; rw [hs]; simp only [Sem.run_bind, hv ho, Result.andThen_ok]; rfl
  | alts ob l =>
    intro ho
    obtain ⟨pv, h1, h2, h3⟩ := hv ho
    refine ⟨pv, h1, h2, ?_⟩
    rw [hs]; simp only [Sem.run_bind, h3, Result.andThen_ok]; rfl
  | new ob r f => exact hv.elim
  | wr ob i r => exact hv.elim
  | app => exact hv.elim
  | _ => trivial

theorem cells_eval {v : SV1} (h : v.cells.all SA.one = true) {n : Nat} {e' : Env} (hag : ∀ i, i < n → e' i = e i) (hok : v.cells.all (SA.ok n) = true) : (v.den e).cells = (v.cells.map (SA.den e')).toArray := by
  rw [cells_den v h, map_congr_sa hag hok]

theorem constEval {x : Operand} {v : SV} (hx : S.ev x = some v) (ht : RelT e S a) : ∀ u, x = .const u → v.den e = u := by
  rintro u rfl
  exact (evOk ht hx).symm

theorem rdOp_sound (h : Rel e w0 W S.m w) (ht : RelT e S a) : Good P e w0 W S a w o (rdOp P S o) := by
  unfold rdOp
  split
  · rename_i x hop
    split
    · rename_i v hv
      intro _
      simp [execOp, hop, evOk ht hv]
    · trivial
  · rename_i x hop
    split
    · rename_i v hv
      intro _
      simp [execOp, hop, evOk ht hv]
    · trivial
  · rename_i x hop
    split
    · rename_i p hv
      split
      · rename_i ob hob
        intro ho
        have he := evOk ht hv
        simp only [SV.den, SV1.den] at he
        rcases ptsOb_ok h hob ho with ⟨A, hA⟩ | ⟨f, caps, rfl⟩
        · rw [hA] at he
          simp [execOp, hop, he, SV.den, SV1.den, hA]
        · simp only [SA.den] at he
          simp [execOp, hop, he, SV.den, SV1.den, SA.den]
      · trivial
    · trivial
  · rename_i t x f hop
    split
    · rename_i p hv
      have he := evOk ht hv
      generalize hr : rdField P S.m t p f = r
      cases r with
      | val ob v =>
        intro ho
        have := rdField_ok h hr ho
        simp only [execOp, hop, he, SV.den, SV1.den, Sem.run_bind, this, Result.andThen_ok]; rfl
      | _ => (unfold rdField at hr; repeat' (split at hr)) <;> first | trivial | cases hr
    · trivial
  · rename_i t x ix hop
    split
    · rename_i p iv hv hi
      have he := evOk ht hv
      have hie := evOk ht hi
      refine good_of_vals (rdIndexAddr_ok h (t := t) (x := p) (ix := ix) (iv := iv) fun u hu => ?_) (by simp only [execOp, hop, he, hie]; rfl)
      exact constEval hi ht u hu
    · trivial
  · rename_i t x hop
    split
    · rename_i p hv
      have he := evOk ht hv
      generalize hr : rdLoad P S.m t p = r
      cases r with
      | val ob v =>
        intro ho
        have := rdLoad_ok h hr ho
        simp only [execOp, hop, he, SV.den, SV1.den, Sem.run_bind, this, Result.andThen_ok]; rfl
      | _ => (unfold rdLoad at hr; repeat' (split at hr)) <;> first | trivial | cases hr
    · trivial
  · rename_i t x y hop
    split
    · rename_i p v hv hy
      have he := evOk ht hv
      have hye := evOk ht hy
      generalize hr : rdStore P S.m t p v = r
      cases r with
      | wr ob i r =>
        intro ho
        obtain ⟨w', hrun, hrel⟩ := rdStore_ok h hr ho
        refine ⟨w', ?_, hrel⟩
        simp only [execOp, hop, he, hye, SV.den, SV1.den, Sem.run_bind] at hrun ⊢
        rw [hrun]; rfl
      | _ => (unfold rdStore at hr; repeat' (split at hr)) <;> first | trivial | cases hr
    · trivial
  · rename_i t x f hop
    split
    · rename_i v hv
      have he := evOk ht hv
      exact good_of_vals (rdPart_ok (t := t) (x := v) (f := f)) (by simp only [execOp, hop, he]; rfl)
    · trivial
  · rename_i t x ix hop
    split
    · rename_i v iv hv hi
      have he := evOk ht hv
      have hie := evOk ht hi
      refine good_of_vals (rdIndex_ok (t := t) (x := v) (ix := ix) (iv := iv) fun u hu => ?_) (by simp only [execOp, hop, he, hie]; rfl)
      exact constEval hi ht u hu
    · trivial
  · rename_i x i hop
    split
    · rename_i l hv
      split
      · rename_i v hl
        intro _
        have he := evOk ht hv
        simp [execOp, hop, he, SV.den, Instr.extract, hl]
      · trivial
    · trivial
  · rename_i op t x y ty hop
    split
    · rename_i xv yv hx hy
      have he := evOk ht hx
      have hye := evOk ht hy
      refine good_of_vals (rdBin_ok h (op := op) (t := t) (x := x) (y := y) (xv := xv) (yv := yv) fun u hu => ?_) (by simp only [execOp, hop, he, hye]; rfl)
      exact constEval hy ht u hu
    · trivial
  · rename_i op t x hop
    split
    · rename_i v hv
      have he := evOk ht hv
      exact good_of_vals (rdUn_ok (op := op) (x := v)) (by simp only [execOp, hop, he]; rfl)
    · trivial
  · rename_i s d x hop
    split
    · rename_i v hv
      have he := evOk ht hv
      exact good_of_vals (rdConv_ok (s := s) (d := d) (x := v)) (by simp only [execOp, hop, he]; rfl)
    · trivial
  · rename_i t parts hop
    split
    · rename_i l hl
      obtain ⟨h1, h2⟩ := evs_ok ht hl
      generalize hr : rdBuild P t l = r
      cases r with
      | val ob v =>
        intro _
        have := rdBuild_ok (e := e) (w := w) h1 hr
        rw [← h2] at this
        have hp : (parts.map fun (i, x) => (i, a.eval x)) = (parts.toList.map fun x => (x.1, a.eval x.2)).toArray := by
          apply Array.toList_inj.1; simp
        simp only [execOp, hop, hp, Sem.run_bind, this, Result.andThen_ok]; rfl
      | _ => (unfold rdBuild at hr; repeat' (split at hr)) <;> first | trivial | cases hr
    · trivial
  · rename_i t len parts hop
    split
    · rename_i l hl
      obtain ⟨h1, h2⟩ := evs_ok ht hl
      generalize hr : rdBuildSlice P t len l = r
      cases r with
      | new ob r f =>
        intro _ hok
        obtain ⟨s, cs, el, hf, hrw, hmp, hcell, hrun⟩ := rdBuildSlice_ok (w := w) h1 hr
        have hrun := hrun e
        rw [← h2] at hrun
        have hp : (parts.map fun (i, x) => (i, a.eval x)) = (parts.toList.map fun x => (x.1, a.eval x.2)).toArray := by
          apply Array.toList_inj.1; simp
        refine ⟨.cells (cs.map (SA.den e)).toArray el, fun e' hag hn => ⟨?_, ⟨fun j v hv => ⟨_, rfl, ?_, fun _ => frozen_new _ _ _ _⟩, fun es k hm => absurd hm (hmp es k)⟩⟩⟩
        · simp only [execOp, hop, hp, Sem.run_bind, hrun, Result.andThen_ok, hf, SV.den, SV1.den, SA.den, at_some hn, Nat.zero_mul, Addr.add_zero']; rfl
        · rw [cell_new]
          rw [Con.congr hag hok] at hv
          have := hcell e j v hv
          simpa using this
      | _ => (unfold rdBuildSlice at hr; repeat' (split at hr)) <;> first | trivial | cases hr
    · trivial
  · rename_i t hop
    generalize hr : rdAlloc P t = r
    cases r with
    | new ob r f =>
      intro _ _
      obtain ⟨o', hrun, hf, hreg⟩ := rdAlloc_ok (w := w) hr
      refine ⟨o', fun e' hag hn => ⟨?_, hreg e'⟩⟩
      simp only [execOp, hop, Sem.run_bind, hrun, Result.andThen_ok, hf, SV.den, SV1.den, SA.den, at_some hn, Addr.add_zero']; simp
    | _ => (unfold rdAlloc at hr; repeat' (split at hr)) <;> first | trivial | cases hr
  · rename_i t x hop
    split
    · rename_i v hv
      split
      · rename_i hone
        intro _ hok
        have he := evOk ht hv
        refine ⟨.cells (v.den e).cells t, fun e' hag hn => ⟨?_, ?_⟩⟩
        · simp only [execOp, hop, he, SV.den, Instr.box, newVar, newRow, SV1.den, SA.den, at_some hn, Addr.add_zero']; simp
        · rw [cells_eval hone hag hok]
          exact regOK_new (fun j v hv => hv) (fun es k hm => by cases hm)
      · trivial
    · trivial
  · rename_i f first caps hop
    split
    · rename_i l hfi hl
      intro _
      have h1 := capsOf_ok ht hl
      have hf0 : first = #[] := by apply Array.toList_inj.1; simpa using hfi
      subst hf0
      have h2 : caps.map a.eval = (l.map fun c => Value.pointer (at_ e c.1 c.2)).toArray := by
        apply Array.toList_inj.1; simpa using h1
      simp [execOp, hop, Instr.makeFunc, h2, SV.den, SV1.den, SA.den]
    · trivial
  · rename_i t x lo hi hop
    split
    · rename_i v hv
      have he := evOk ht hv
      exact good_of_vals (rdSlice_ok h ht rfl (t := t) (x := v) (lo := lo) (hi := hi)) (by simp only [execOp, hop, he]; rfl)
    · trivial
  · rename_i args argTypes hop
    split
    · rename_i x t ha hat
      split
      · rename_i v hv
        have he := evOk ht hv
        have ha' : args = #[x] := by apply Array.toList_inj.1; simpa using ha
        have hat' : argTypes = #[t] := by apply Array.toList_inj.1; simpa using hat
        subst ha'; subst hat'
        refine good_of_vals (rdLen_ok h (t := t) (ty := o.type) (x := v)) ?_
        simp only [execOp, hop, resolve, Array.map_singleton, he]
        rfl
      · trivial
    · trivial
  · rename_i args argTypes hop
    split
    · rename_i x y ha
      split
      · rename_i k u k' v hx hy
        have he := evOk ht hx
        have hye := evOk ht hy
        have ha' : args = #[x, y] := by apply Array.toList_inj.1; simpa using ha
        subst ha'
        intro _
        simp [execOp, hop, resolve, he, hye, invoke, builtin, SV.den, SV1.den, SA.den, run_min_int2, int_]
      · trivial
    · trivial
  · rename_i args argTypes hop
    split
    · rename_i x y ha
      split
      · rename_i k u k' v hx hy
        have he := evOk ht hx
        have hye := evOk ht hy
        have ha' : args = #[x, y] := by apply Array.toList_inj.1; simpa using ha
        subst ha'
        intro _
        simp [execOp, hop, resolve, he, hye, invoke, builtin, SV.den, SV1.den, SA.den, run_max_int2, int_]
      · trivial
    · trivial
  · rename_i args argTypes hop
    split
    · rename_i x y t u ha hat
      split
      · rename_i vx vy hx hy htu
        have htu := Nat.beq_iff.1 htu
        subst htu
        have he := evOk ht hx
        have hye := evOk ht hy
        have ha' : args = #[x, y] := by apply Array.toList_inj.1; simpa using ha
        have hat' : argTypes = #[t, t] := by apply Array.toList_inj.1; simpa using hat
        subst ha'; subst hat'
        generalize hr : rdAppend P S.m t vx vy = r
        cases r with
        | app ob gone st len reg =>
          intro ho hok
          obtain ⟨cap, tl, A, w', h1, h2, h3, h4⟩ := rdAppend_ok h hok hr ho
          refine ⟨cap, tl, A, w', h1, h2, ?_, h4⟩
          simp only [SV.den, SV1.den] at he hye
          simp only [execOp, hop, resolve, invoke, builtin, List.map_toArray, List.map_cons, List.map_nil, he, hye, Sem.run_bind, Sem.run_pure, Result.andThen_ok, h3]
        | _ => (unfold rdAppend at hr; repeat' (split at hr)) <;> first | trivial | cases hr
      · trivial
    · trivial
  · rename_i t l c hop
    split
    · rename_i k1 l' k2 c' hl hc
      have he := evOk ht hl
      have hye := evOk ht hc
      generalize hr : rdMake P t l' c' = r
      cases r with
      | new ob r f =>
        intro ho _
        obtain ⟨o', hrun, ⟨st, hf⟩, hreg⟩ := rdMake_ok (w := w) (k1 := k1) (k2 := k2) hr ho
        refine ⟨o', fun e' hag hn => ⟨?_, hreg e'⟩⟩
        simp only [SV.den, SV1.den, SA.den] at he hye
        simp only [execOp, hop, he, hye, Sem.run_bind, hrun, Result.andThen_ok, hf, SV.den, SV1.den, SA.den, at_some hn, Nat.zero_mul, Addr.add_zero']; rfl
      | _ => (unfold rdMake at hr; repeat' (split at hr)) <;> first | trivial | cases hr
    · trivial
  · trivial

end
end Go.Sx

/-
  Part 9: code is carried out.
-/
namespace Go.Sx
open Go.RowKit

def obs : Option Prop → Prop → Prop
  | none, K => K
  | some p, K => p ∧ K

def allP : List Prop → Prop → Prop
  | [], K => K
  | p :: l, K => p ∧ allP l K

/-! ### Names renamed -/

def rn (ρ : List Nat) (i : Nat) : Nat := ρ.getD i i

def SA.ren (ρ : List Nat) : SA → SA
  | .ptr i off => .ptr (rn ρ i) off
  | .rp i st r c => .rp (rn ρ i) st r c
  | .slc i st r len cap => .slc (rn ρ i) st r len cap
  | .map i => .map (rn ρ i)
  | .clo f caps => .clo f (caps.map fun c => (rn ρ c.1, c.2))
  | x => x
def SV1.ren (ρ : List Nat) : SV1 → SV1
  | .a x => .a (x.ren ρ)
  | .agg l => .agg (l.map (SA.ren ρ))
def SV.ren (ρ : List Nat) : SV → SV
  | .one x => .one (x.ren ρ)
  | .tup l => .tup (l.map (SV1.ren ρ))
def Con.ren (ρ : List Nat) : Con → Con
  | .flat l => .flat (l.map (SA.ren ρ))
  | c => c

def renE (e : Env) (ρ : List Nat) : Env := fun j => e (rn ρ j)

theorem SA.den_ren (e : Env) (ρ : List Nat) (x : SA) : (x.ren ρ).den e = x.den (renE e ρ) := by
  cases x <;> simp [SA.ren, SA.den, at_, renE, Function.comp_def]
theorem SV1.den_ren (e : Env) (ρ : List Nat) (x : SV1) : (x.ren ρ).den e = x.den (renE e ρ) := by
  cases x with
  | a x => exact SA.den_ren e ρ x
  | agg l => simp [SV1.ren, SV1.den, Function.comp_def, SA.den_ren]
theorem SV.den_ren (e : Env) (ρ : List Nat) (x : SV) : (x.ren ρ).den e = x.den (renE e ρ) := by
  cases x with
  | one x => exact SV1.den_ren e ρ x
  | tup l => simp [SV.ren, SV.den, Function.comp_def, SV1.den_ren]
theorem Con.cell_ren (e : Env) (ρ : List Nat) (c : Con) (j : Nat) : (c.ren ρ).cell e j = c.cell (renE e ρ) j := by
  cases c with
  | flat l => simp only [Con.ren, Con.cell, List.getElem?_map, Option.map_map, Function.comp_def, SA.den_ren]
  | tab n cols => rfl
  | mp es k => rfl

/-! ### What makes two values one -/

def natList : List (Nat × Nat) → List (Nat × Nat) → Bool
  | [], [] => true
  | a :: l, b :: r => Nat.beq a.1 b.1 && Nat.beq a.2 b.2 && natList l r
  | _, _ => false

/-- what must be shown: the first is what is claimed, the second what is -/
def eqSA : SA → SA → Option (List Prop)
  | .v (.int k a), .v (.int k' b) => (match kindEq k k' with | true => some [a = b] | false => none)
  | .v (.pointer none), .v (.pointer none) => some []
  | .v (.slice none 0 0), .v (.slice none 0 0) => some []
  | .ptr i o, .ptr j o' => (match Nat.beq i j with | true => some [o = o'] | false => none)
  | .rp i s r c, .rp j s' r' c' => (match Nat.beq i j, Nat.beq s s', Nat.beq c c' with | true, true, true => some [r = r'] | _, _, _ => none)
  | .slc i s r l c, .slc j s' r' l' c' => (match Nat.beq i j, Nat.beq s s' with | true, true => some [r = r', l = l', c = c'] | _, _ => none)
  | .map i, .map j => (match Nat.beq i j with | true => some [] | false => none)
  | .clo f caps, .clo g caps' => (match Nat.beq f g, natList caps caps' with | true, true => some [] | _, _ => none)
  | .tt, .tt => some []
  | .ff, .ff => some []
  | x, y => (match boolOf x, boolOf y with
    | some a, some b => some [a = b]
    | _, _ => (match x, y with | .v a, .v b => some [a = b] | _, _ => none))

def app2 : Option (List Prop) → Option (List Prop) → Option (List Prop)
  | some l, some r => some (l ++ r)
  | _, _ => none

def eqSAs : List SA → List SA → Option (List Prop)
  | [], [] => some []
  | x :: xs, y :: ys => app2 (eqSA x y) (eqSAs xs ys)
  | _, _ => none

/-- the first as a beginning of the second -/
def preSAs : List SA → List SA → Option (List Prop)
  | [], _ => some []
  | x :: xs, y :: ys => app2 (eqSA x y) (preSAs xs ys)
  | _, _ => none

def eqSV1 : SV1 → SV1 → Option (List Prop)
  | .a x, .a y => eqSA x y
  | .agg l, .agg r => eqSAs l r
  | _, _ => none
def eqSV1s : List SV1 → List SV1 → Option (List Prop)
  | [], [] => some []
  | x :: xs, y :: ys => app2 (eqSV1 x y) (eqSV1s xs ys)
  | _, _ => none
def eqSV : SV → SV → Option (List Prop)
  | .one x, .one y => eqSV1 x y
  | .tup l, .tup r => eqSV1s l r
  | _, _ => none

def Holds (l : List Prop) : Prop := ∀ p ∈ l, p

theorem holds_app {l r : List Prop} (h : Holds (l ++ r)) : Holds l ∧ Holds r :=
  ⟨fun p hp => h p (List.mem_append.2 (.inl hp)), fun p hp => h p (List.mem_append.2 (.inr hp))⟩

theorem allP_iff {l : List Prop} {K : Prop} : allP l K ↔ Holds l ∧ K := by
  induction l with
  | nil => simp [allP, Holds]
  | cons p l ih =>
    simp only [allP, ih]
    constructor
    · rintro ⟨h1, h2, h3⟩
      refine ⟨fun q hq => ?_, h3⟩
      rcases List.mem_cons.1 hq with rfl | hq
      · exact h1
      · exact h2 q hq
    · rintro ⟨h1, h2⟩
      exact ⟨h1 p List.mem_cons_self, fun q hq => h1 q (List.mem_cons_of_mem _ hq), h2⟩

theorem app2_some {a b : Option (List Prop)} {l : List Prop} (h : app2 a b = some l) : ∃ x y, a = some x ∧ b = some y ∧ l = x ++ y := by
  unfold app2 at h
  split at h
  · rename_i x y
    cases h; exact ⟨x, y, rfl, rfl, rfl⟩
  · cases h

theorem natList_eq : ∀ {l r : List (Nat × Nat)}, natList l r = true → l = r
  | [], [], _ => rfl
  | a :: l, b :: r, h => by
    simp only [natList, Bool.and_eq_true] at h
    have h1 := Nat.beq_iff.1 h.1.1
    have h2 := Nat.beq_iff.1 h.1.2
    rw [natList_eq h.2]
    congr 1
    exact Prod.ext h1 h2
  | [], _ :: _, h => by cases h
  | _ :: _, [], h => by cases h

theorem eqSA_den {e : Env} {x y : SA} {l : List Prop} (h : eqSA x y = some l) (hl : Holds l) : x.den e = y.den e := by
  unfold eqSA at h
  split at h
  · split at h
    · rename_i hk
      cases h
      have := kind_eq hk
      have h2 := hl _ (List.mem_cons_self)
      subst this; subst h2; rfl
    · cases h
  · cases h; rfl
  · cases h; rfl
  · split at h
    · rename_i hk
      cases h
      have := Nat.beq_iff.1 hk
      have h2 := hl _ (List.mem_cons_self)
      subst this; subst h2; rfl
    · cases h
  · split at h
    · rename_i h1 h2 h3
      cases h
      have h1 := Nat.beq_iff.1 h1
      have h2 := Nat.beq_iff.1 h2
      have h3 := Nat.beq_iff.1 h3
      have h4 := hl _ (List.mem_cons_self)
      subst h1; subst h2; subst h3; subst h4; rfl
    · cases h
  · split at h
    · rename_i h1 h2
      cases h
      have h1 := Nat.beq_iff.1 h1
      have h2 := Nat.beq_iff.1 h2
      have h3 := hl _ (List.mem_cons_self)
      have h4 := hl _ (List.mem_cons_of_mem _ (List.mem_cons_self))
      have h5 := hl _ (List.mem_cons_of_mem _ (List.mem_cons_of_mem _ (List.mem_cons_self)))
      subst h1; subst h2; subst h3; subst h4; subst h5; rfl
    · cases h
  · split at h
    · rename_i hk
      have := Nat.beq_iff.1 hk
      subst this; rfl
    · cases h
  · split at h
    · rename_i h1 h2
      have h1 := Nat.beq_iff.1 h1
      have h2 := natList_eq h2
      subst h1; subst h2; rfl
    · cases h
  · rfl
  · rfl
  · split at h
    · rename_i a b ha hb
      cases h
      have := hl _ (List.mem_cons_self)
      rw [boolOf_den ha, boolOf_den hb, this]
    · split at h
      · cases h
        have := hl _ (List.mem_cons_self)
        rw [this]
      · cases h

theorem eqSAs_den {e : Env} : ∀ {x y : List SA} {l : List Prop}, eqSAs x y = some l → Holds l → x.map (SA.den e) = y.map (SA.den e)
  | [], [], _, _, _ => rfl
  | x :: xs, y :: ys, l, h, hl => by
    obtain ⟨a, b, h1, h2, rfl⟩ := app2_some h
    obtain ⟨h3, h4⟩ := holds_app hl
    simp only [List.map_cons, eqSA_den h1 h3, eqSAs_den h2 h4]
  | [], _ :: _, _, h, _ => by cases h
  | _ :: _, [], _, h, _ => by cases h

theorem preSAs_den {e : Env} : ∀ {x y : List SA} {l : List Prop}, preSAs x y = some l → Holds l → ∀ (j : Nat) (v : Value), (x[j]?).map (SA.den e) = some v → (y[j]?).map (SA.den e) = some v
  | [], _, _, _, _, j, v, hv => by simp at hv
  | x :: xs, y :: ys, l, h, hl, j, v, hv => by
    obtain ⟨a, b, h1, h2, rfl⟩ := app2_some h
    obtain ⟨h3, h4⟩ := holds_app hl
    cases j with
    | zero => simp at hv ⊢; rw [← eqSA_den h1 h3]; exact hv
    | succ j => simp only [List.getElem?_cons_succ] at hv ⊢; exact preSAs_den h2 h4 j v hv
  | _ :: _, [], _, h, _, _, _, _ => by cases h

theorem eqSV1_den {e : Env} {x y : SV1} {l : List Prop} (h : eqSV1 x y = some l) (hl : Holds l) : x.den e = y.den e := by
  unfold eqSV1 at h
  split at h
  · exact eqSA_den h hl
  · simp only [SV1.den, eqSAs_den h hl]
  · cases h

theorem eqSV1s_den {e : Env} : ∀ {x y : List SV1} {l : List Prop}, eqSV1s x y = some l → Holds l → x.map (SV1.den e) = y.map (SV1.den e)
  | [], [], _, _, _ => rfl
  | x :: xs, y :: ys, l, h, hl => by
    obtain ⟨a, b, h1, h2, rfl⟩ := app2_some h
    obtain ⟨h3, h4⟩ := holds_app hl
    simp only [List.map_cons, eqSV1_den h1 h3, eqSV1s_den h2 h4]
  | [], _ :: _, _, h, _ => by cases h
  | _ :: _, [], _, h, _ => by cases h

theorem eqSV_den {e : Env} {x y : SV} {l : List Prop} (h : eqSV x y = some l) (hl : Holds l) : x.den e = y.den e := by
  unfold eqSV at h
  split at h
  · exact eqSV1_den h hl
  · simp only [SV.den, eqSV1s_den h hl]
  · cases h

/-! ### Less is known -/

def subCol (n : Nat) : Col → Col → Option (List Prop)
  | .int k g, .int k' g' => (match kindEq k k' with | true => some [∀ r, r < n → g r = g' r] | false => none)
  | .bool g, .bool g' => some [∀ r, r < n → g r = g' r]
  | .val g, .val g' => some [∀ r, r < n → g r = g' r]
  | .val g, .int k g' => some [∀ r, r < n → g r = .int k (g' r)]
  | _, _ => none
def subCols (n : Nat) : List Col → List Col → Option (List Prop)
  | [], [] => some []
  | x :: xs, y :: ys => app2 (subCol n x y) (subCols n xs ys)
  | _, _ => none
/-- the first (claimed) is no more than the second (known) -/
def subCon : Con → Con → Option (List Prop)
  | .flat l, .flat r => preSAs l r
  | .tab n cols, .tab n' cols' => app2 (some [n ≤ n']) (subCols n cols cols')
  | .mp es k, .mp es' k' => some [es = es', k = k']
  | _, _ => none
def subReg (x y : Reg) : Option (List Prop) :=
  match x.rw, y.rw with
  | true, false => none
  | _, _ => subCon x.con y.con

/-- 'm'' claimed (its names renamed by ρ) of the known 'm' -/
def subMem (ρ : List Nat) (m : Mem) : Nat → Mem → Option (List Prop)
  | _, [] => some []
  | j, none :: r => subMem ρ m (j + 1) r
  | j, some x :: r => (match m.reg (rn ρ j) with
    | some y => app2 (subReg ⟨x.rw, x.con.ren ρ⟩ y) (subMem ρ m (j + 1) r)
    | none => none)

def nodupB : List Nat → Bool
  | [] => true
  | x :: l => (l.all fun y => !(Nat.beq x y)) && nodupB l

theorem nodupB_inj : ∀ {l : List Nat}, nodupB l = true → ∀ i j : Nat, i < l.length → j < l.length → l.getD i i = l.getD j j → i = j
  | [], _, i, _, hi, _, _ => by simp at hi
  | x :: l, h, i, j, hi, hj, heq => by
    simp only [nodupB, Bool.and_eq_true] at h
    have hne : ∀ k, k < l.length → x ≠ l.getD k (k + 1) := by
      intro k hk hx
      have := List.all_eq_true.1 h.1 (l[k]) (List.getElem_mem hk)
      simp [hk] at hx
      simp [← hx] at this
    have hget : ∀ k d d' : Nat, k < l.length → l.getD k d = l.getD k d' := by
      intro k d d' hk; simp [hk]
    cases i with
    | zero =>
      cases j with
      | zero => rfl
      | succ j => simp only [List.getD_cons_zero, List.getD_cons_succ] at heq; exact absurd heq (hne j (by simpa using hj))
    | succ i =>
      cases j with
      | zero => simp only [List.getD_cons_zero, List.getD_cons_succ] at heq; exact absurd heq.symm (hne i (by simpa using hi))
      | succ j =>
        simp only [List.getD_cons_succ] at heq
        have hi' : i < l.length := by simpa using hi
        have hj' : j < l.length := by simpa using hj
        rw [hget i (i + 1) i hi', hget j (j + 1) j hj'] at heq
        rw [nodupB_inj h.2 i j hi' hj' heq]

theorem subCols_at {n : Nat} : ∀ {x y : List Col} {l : List Prop}, subCols n x y = some l → Holds l → x.length = y.length ∧ ∀ (c : Nat) (q : Col), x[c]? = some q → ∃ q', y[c]? = some q' ∧ ∀ r, r < n → q.at_ r = q'.at_ r
  | [], [], _, _, _ => ⟨rfl, fun c q hq => by simp at hq⟩
  | x :: xs, y :: ys, l, h, hl => by
    obtain ⟨a, b, h1, h2, rfl⟩ := app2_some h
    obtain ⟨h3, h4⟩ := holds_app hl
    obtain ⟨h5, h6⟩ := subCols_at h2 h4
    refine ⟨by simp [h5], fun c q hq => ?_⟩
    cases c with
    | zero =>
      simp at hq
      subst hq
      refine ⟨y, rfl, ?_⟩
      unfold subCol at h1
      split at h1
      · split at h1
        · rename_i hk
          cases h1
          have := kind_eq hk
          subst this
          intro r hr
          simp only [Col.at_]; rw [h3 _ (List.mem_cons_self) r hr]
        · cases h1
      · cases h1
        intro r hr
        simp only [Col.at_]; rw [h3 _ (List.mem_cons_self) r hr]
      · cases h1
        intro r hr
        simp only [Col.at_]; rw [h3 _ (List.mem_cons_self) r hr]
      · cases h1
        intro r hr
        simp only [Col.at_]; rw [h3 _ (List.mem_cons_self) r hr]
      · cases h1
    | succ c => exact h6 c q (by simpa using hq)
  | [], _ :: _, _, h, _ => by cases h
  | _ :: _, [], _, h, _ => by cases h

theorem subCon_cell {e : Env} {x y : Con} {l : List Prop} (h : subCon x y = some l) (hl : Holds l) : (∀ j v, x.cell e j = some v → y.cell e j = some v) ∧ (∀ es k, x = .mp es k → y = .mp es k) := by
  unfold subCon at h
  split at h
  · refine ⟨fun j v hv => preSAs_den h hl j v hv, fun es k hm => by cases hm⟩
  · rename_i n cols n' cols'
    obtain ⟨a, b, h1, h2, rfl⟩ := app2_some h
    obtain ⟨h3, h4⟩ := holds_app hl
    cases h1
    have hn : n ≤ n' := h3 _ (List.mem_cons_self)
    obtain ⟨h5, h6⟩ := subCols_at h2 h4
    refine ⟨fun j v hv => ?_, fun es k hm => by cases hm⟩
    simp only [Con.cell] at hv ⊢
    rw [← h5]
    split at hv
    · rename_i hlt
      rw [if_pos (by omega)]
      cases hq : cols[j % cols.length]? with
      | none => rw [hq] at hv; cases hv
      | some q =>
        obtain ⟨q', hq', hat⟩ := h6 _ q hq
        rw [hq] at hv
        rw [hq', Option.map_some, ← hat _ hlt]; exact hv
    · cases hv
  · cases h
    have h1 := hl _ (List.mem_cons_self)
    have h2 := hl _ (List.mem_cons_of_mem _ (List.mem_cons_self))
    refine ⟨fun j v hv => (by cases hv), fun es k hm => (by cases hm; rw [h1, h2])⟩
  · cases h

theorem subMem_get {ρ : List Nat} {m : Mem} : ∀ {r : Mem} {j0 : Nat} {l : List Prop}, subMem ρ m j0 r = some l → Holds l → ∀ (j : Nat) (x : Reg), r[j]? = some (some x) → ∃ y l', m.reg (rn ρ (j0 + j)) = some y ∧ subReg ⟨x.rw, x.con.ren ρ⟩ y = some l' ∧ Holds l'
  | [], _, _, _, _, j, x, hj => by simp at hj
  | none :: r, j0, l, h, hl, j, x, hj => by
    cases j with
    | zero => simp at hj
    | succ j =>
      obtain ⟨y, l', h1, h2, h3⟩ := subMem_get (r := r) h hl j x (by simpa using hj)
      exact ⟨y, l', by rw [← h1]; congr 2; omega, h2, h3⟩
  | some z :: r, j0, l, h, hl, j, x, hj => by
    simp only [subMem] at h
    split at h
    · rename_i y hy
      obtain ⟨a, b, h1, h2, rfl⟩ := app2_some h
      obtain ⟨h3, h4⟩ := holds_app hl
      cases j with
      | zero => simp at hj; subst hj; exact ⟨y, a, hy, h1, h3⟩
      | succ j =>
        obtain ⟨y', l', h5, h6, h7⟩ := subMem_get (r := r) h2 h4 j x (by simpa using hj)
        exact ⟨y', l', by rw [← h5]; congr 2; omega, h6, h7⟩
    · cases h

theorem some_ren {ρ : List Nat} {c : Con} (h : c.some_) : (c.ren ρ).some_ := by
  cases c with
  | flat l =>
    intro h0
    cases l with
    | nil => exact h rfl
    | cons x l => cases h0
  | tab n cols => exact h
  | mp es k => exact h

theorem subCon_some {x y : Con} {l : List Prop} (h : subCon x y = some l) (hl : Holds l) (hs : x.some_) : y.some_ := by
  unfold subCon at h
  split at h
  · rename_i a b
    cases a with
    | nil => exact absurd rfl hs
    | cons x xs => cases b with
      | nil => cases h
      | cons y ys => intro h0; cases h0
  · rename_i n cols n' cols'
    obtain ⟨a, b, h1, h2, rfl⟩ := app2_some h
    obtain ⟨h3, h4⟩ := holds_app hl
    cases h1
    have hn : n ≤ n' := h3 _ (List.mem_cons_self)
    obtain ⟨h5, _⟩ := subCols_at h2 h4
    obtain ⟨h6, h7⟩ := hs
    refine ⟨by omega, ?_⟩
    intro h0
    rw [h0] at h5
    exact h7 (List.length_eq_zero_iff.1 h5)
  · trivial
  · cases h

/-- Less is known, by other names. -/
theorem Rel.sub {e : Env} {w0 : World} {W : Nat → Prop} {m m' : Mem} {w : World} (h : Rel e w0 W m w) {ρ : List Nat} {l : List Prop} (hs : subMem ρ m 0 m' = some l) (hl : Holds l)
    (hlen : m'.length ≤ ρ.length) (hnd : nodupB ρ = true) : Rel (renE e ρ) w0 W m' w := by
  have get : ∀ (i : Nat) (r : Reg), m'[i]? = some (some r) → ∃ y l', m[rn ρ i]? = some (some y) ∧ (r.rw = true → y.rw = true) ∧ subCon (r.con.ren ρ) y.con = some l' ∧ Holds l' := by
    intro i r hi
    obtain ⟨y, l', h1, h2, h3⟩ := subMem_get hs hl i r hi
    rw [Nat.zero_add] at h1
    unfold subReg at h2
    split at h2
    · cases h2
    · rename_i hne
      refine ⟨y, l', reg_of h1, fun hr => ?_, h2, h3⟩
      cases hy : y.rw with
      | true => rfl
      | false => exact absurd hy (hne hr)
  refine ⟨h.fr, fun i r hi => ?_, ?_, ?_⟩
  · obtain ⟨y, l', h1, h2, h3, h4⟩ := get i r hi
    have hR := h.reg _ _ h1
    obtain ⟨h5, h6⟩ := subCon_cell (e := e) h3 h4
    refine ⟨fun j v hv => ?_, fun es k hm => ?_⟩
    · rw [← Con.cell_ren] at hv
      obtain ⟨a, ha, hc, hf⟩ := hR.cell j v (h5 j v hv)
      exact ⟨a, ha, hc, fun hr => hf (h2 hr)⟩
    · exact hR.map es k (h6 es k (by rw [hm]; rfl))
  · intro i j ri rj a b hij hi hj hrw hsi hsj ha hb
    obtain ⟨yi, li, h1, h2, h3, h4⟩ := get i ri hi
    obtain ⟨yj, lj, h5, h6, h7, h8⟩ := get j rj hj
    have hil : i < ρ.length := Nat.lt_of_lt_of_le (List.getElem?_eq_some_iff.1 hi).1 hlen
    have hjl : j < ρ.length := Nat.lt_of_lt_of_le (List.getElem?_eq_some_iff.1 hj).1 hlen
    exact h.sep (rn ρ i) (rn ρ j) yi yj a b (fun hh => hij (nodupB_inj hnd i j hil hjl hh)) h1 h5 (h2 hrw) (subCon_some h3 h4 (some_ren hsi)) (subCon_some h7 h8 (some_ren hsj)) ha hb
  · intro i r a hi hrw hsi ha
    obtain ⟨y, l', h1, h2, h3, h4⟩ := get i r hi
    exact h.wr (rn ρ i) y a h1 (h2 hrw) (subCon_some h3 h4 (some_ren hsi)) ha

end Go.Sx

/-
  Part 10: contracts of functions, operations in a row, code; that all this is sound.
-/
namespace Go.Sx
open Go.RowKit

/-- One way in which a call may end. -/
inductive Alt where
  | one (v : SV) (m : Mem)
  | cond (p : Prop) (v : SV) (m : Mem)
  | fam (α : Type) (p : α → Prop) (v : α → SV) (m : α → Mem)

/-- the world behind it -/
def After (e : Env) (n : Nat) (w0 : World) (W : Nat → Prop) (v : SV) (m : Mem) (r : Ending) (w : World) : Prop :=
  ∃ e' : Env, (∀ i, i < n → e' i = e i) ∧ r = .returned (v.den e') ∧ Rel e' w0 W m w

def Alt.Says (e : Env) (n : Nat) (w0 : World) (W : Nat → Prop) (r : Ending) (w : World) : Alt → Prop
  | .one v m => After e n w0 W v m r w
  | .cond p v m => p ∧ After e n w0 W v m r w
  | .fam _ p v m => ∃ y, p y ∧ After e n w0 W (v y) (m y) r w

def altK (K : SV → Mem → Prop) : Alt → Prop
  | .one v m => K v m
  | .cond p v m => p → K v m
  | .fam _ p v m => ∀ y, p y → K (v y) (m y)

def altsK (K : SV → Mem → Prop) : List Alt → Prop
  | [] => True
  | [a] => altK K a
  | a :: l => altK K a ∧ altsK K l

theorem altsK_mem {K : SV → Mem → Prop} : ∀ {l : List Alt}, altsK K l → ∀ a ∈ l, altK K a
  | [_], h, _, ha => by cases List.mem_singleton.1 ha; exact h
  | x :: y :: l, h, a, ha => by
    rcases List.mem_cons.1 ha with rfl | ha
    · exact h.1
    · exact altsK_mem h.2 a ha

/-- A function that leaves the known memory as it is. -/
structure PSpec (P : Program) where
  f : FuncId
  X : Type
  inp : List SV → Mem → Option X
  pre : X → Option Prop
  res : X → SV
  sound : ∀ (args : List SV) (m : Mem) (x : X), inp args m = some x → obp (pre x) → ∀ (e : Env) (w0 : World) (W : Nat → Prop) (w : World), Rel e w0 W m w →
    ((callFunc f (args.map (SV.den e)).toArray).run P w = .ok (.enter f (args.map (SV.den e)).toArray) w ∧ Calls P f (args.map (SV.den e)).toArray w fun r w' => r = .returned ((res x).den e) ∧ Rel e w0 W m w') ∨
    (callFunc f (args.map (SV.den e)).toArray).run P w = .ok (.value ((res x).den e)) w

/-- A function that writes or makes memory. -/
structure ESpec (P : Program) where
  f : FuncId
  X : Type
  inp : List SV → Mem → Option X
  pre : X → Option Prop
  res : X → List Alt
  ent : ∀ (args : Array Value) (w : World), (callFunc f args).run P w = .ok (.enter f args) w
  sound : ∀ (args : List SV) (m : Mem) (x : X), inp args m = some x → obp (pre x) → Mem.ok m = true → ∀ (e : Env) (w0 : World) (W : Nat → Prop) (w : World), Rel e w0 W m w →
    Calls P f (args.map (SV.den e)).toArray w fun r w' => ∃ a ∈ res x, a.Says e m.length w0 W r w'

/-- A function that is carried out where it is called. -/
structure ISpec (P : Program) where
  f : FuncId
  run : List SV → Mem → (SV → Mem → Prop) → Prop
  ent : ∀ (args : Array Value) (w : World), (callFunc f args).run P w = .ok (.enter f args) w
  sound : ∀ (args : List SV) (m : Mem) (K : SV → Mem → Prop), run args m K → ∀ (e : Env) (w0 : World) (W : Nat → Prop) (w : World), Rel e w0 W m w →
    Calls P f (args.map (SV.den e)).toArray w fun r w' => ∃ v m', K v m' ∧ After e m.length w0 W v m' r w'

structure LA where
  ι : Type
  inv : ι → Prop
  T : ι → St
  μ : ι → Nat
  ren : St → List Nat

inductive LoopBy where
  | inv (la : LA)
  | rounds (n : Nat)

structure Cx (P : Program) where
  ps : List (PSpec P)
  es : List (ESpec P)
  is : List (ISpec P)
  n0 : Nat
  loops : Nat → Option LoopBy
  cuts : Nat → Option LA

inductive Md where
  | norm | still | quiet

def Slots.ok (n : Nat) : Slots → Bool
  | [] => true
  | (_, v) :: l => v.ok n && Slots.ok n l
def St.ok (S : St) : Bool := S.t.ok S.m.length && Mem.ok S.m

def br (c : SA) (X Y : Prop) : Prop :=
  match c with
  | .tt => X
  | .ff => Y
  | .pr p _ => (p → X) ∧ (¬ p → Y)
  | .v (.bool b) => (b = true → X) ∧ (b = false → Y)
  | _ => False

def allAlts (K : SV → Prop) : List (Prop × SV) → Prop
  | [] => True
  | (p, v) :: l => (p → K v) ∧ allAlts K l

section
variable {P : Program}

def findP : List (PSpec P) → FuncId → List SV → Mem → Option (Option Prop × SV)
  | [], _, _, _ => none
  | s :: l, f, args, m => (match Nat.beq s.f f with
    | true => (match s.inp args m with | some x => some (s.pre x, s.res x) | none => findP l f args m)
    | false => findP l f args m)

def findE : List (ESpec P) → FuncId → List SV → Mem → Option (Option Prop × List Alt)
  | [], _, _, _ => none
  | s :: l, f, args, m => (match Nat.beq s.f f with
    | true => (match s.inp args m with | some x => some (s.pre x, s.res x) | none => findE l f args m)
    | false => findE l f args m)

def findI : List (ISpec P) → FuncId → Option (ISpec P)
  | [], _ => none
  | s :: l, f => (match Nat.beq s.f f with | true => some s | false => findI l f)

def evArgs (S : St) : List Operand → Option (List SV)
  | [] => some []
  | x :: l => (match S.ev x, evArgs S l with | some v, some r => some (v :: r) | _, _ => none)

def St.withMem (S : St) (m : Mem) : St := { S with m := m }

def runCall (md : Md) (cx : Cx P) (dst : Option Tmp) (f : FuncId) (args : List SV) (S : St) (K : St → Prop) : Prop :=
  match findP cx.ps f args S.m, md with
  | some (ob, v), .norm | some (ob, v), .quiet => obs ob (K (S.put dst v))
  | none, .norm => (match findE cx.es f args S.m, S.ok with
    | some (ob, l), true => obs ob (altsK (fun v m => match Nat.ble cx.n0 m.length with | true => K ((S.withMem m).put dst v) | false => False) l)
    | none, true => (match findI cx.is f with
      | some s => s.run args S.m fun v m => match Nat.ble cx.n0 m.length with | true => K ((S.withMem m).put dst v) | false => False
      | none => False)
    | _, _ => False)
  | _, _ => False

def runOp (md : Md) (cx : Cx P) (o : Oper) (S : St) (K : St → Prop) : Prop :=
  match S.can o.dst with
  | false => False
  | true => (match o.op with
    | .pick c x y => (match S.ev c, S.ev x, S.ev y with
      | some (.one (.a c)), some xv, some yv => br c (K (S.put o.dst xv)) (K (S.put o.dst yv))
      | _, _, _ => False)
    | .call { callee := .value f, args, .. } => (match S.ev f, evArgs S args.toList with
      | some (.one (.a (.clo g caps))), some l => runCall md cx o.dst g (l ++ caps.map fun c => .one (.a (.ptr c.1 c.2))) S K
      | _, _ => False)
    | _ => (match rdOp P S o, md with
      | .val ob v, _ => obs ob (K (S.put o.dst v))
      | .alts ob l, .norm | .alts ob l, .still => ob ∧ allAlts (fun v => K (S.put o.dst v)) l
      | .new ob r f, .norm => (match S.ok && r.con.ok S.m.length with | true => obs ob (K ((S.withMem (S.m ++ [some r])).put o.dst (f S.m.length))) | false => False)
      | .app ob gone st len reg, .norm => (match S.ok with
        | true => ob ∧ ∀ (cap : Nat) (tl : Tail), len ≤ cap → cap ≤ 9223372036854775807 → K ((S.withMem (goneR gone S.m ++ [some (reg cap tl)])).put o.dst (.one (.a (.slc S.m.length st 0 len cap))))
        | false => False)
      | .wr ob i r, .norm => obs ob (K ((S.withMem (S.m.set i (some r))).put o.dst (.tup [])))
      | _, _ => False))

def sel (want : Bool) (X Y : Prop) : Prop :=
  match want with
  | true => X
  | false => Y

def runOps (md : Md) (cx : Cx P) (all : Array Oper) : List Oper → St → (St → Prop) → Prop
  | [], S, K => K S
  | o :: rest, S, K => (match o.guard with
    | none => runOp md cx o S fun S' => runOps md cx all rest S' K
    | some (j, want) => (match (all[j]?).bind (·.dst) with
      | none => False
      | some d => (match S.t.get d, S.can o.dst with
        | some (.one (.a c)), true => br c
            (sel want (runOp md cx o (S.put (some d) (.one (.a .tt))) fun S' => runOps md cx all rest S' K) (runOps md cx all rest ((S.put (some d) (.one (.a .tt))).put o.dst (.tup [])) K))
            (sel want (runOps md cx all rest ((S.put (some d) (.one (.a .ff))).put o.dst (.tup [])) K) (runOp md cx o (S.put (some d) (.one (.a .ff))) fun S' => runOps md cx all rest S' K))
        | some (.tup []), true => runOps md cx all rest (S.put o.dst (.tup [])) K
        | _, _ => False)))

def idB : Nat → Nat → List Nat → Bool
  | 0, _, _ => true
  | n + 1, j, x :: l => Nat.beq x j && idB n (j + 1) l
  | _ + 1, _, [] => false

def subSlots (ρ : List Nat) (t : Slots) : Slots → Option (List Prop)
  | [] => some []
  | (k, v) :: r => (match t.get k with
    | some u => app2 (eqSV (v.ren ρ) u) (subSlots ρ t r)
    | none => none)

/-- T claimed of the known S -/
def subSt (ρ : List Nat) (n0 : Nat) (S T : St) : Option (List Prop) :=
  match Nat.beq S.n T.n, idB n0 0 ρ, Nat.ble T.m.length ρ.length, nodupB ρ, Nat.ble n0 T.m.length with
  | true, true, true, true, true => app2 (subSlots ρ S.t T.t) (subMem ρ S.m 0 T.m)
  | _, _, _, _, _ => none

def enter (la : LA) (n0 : Nat) (S : St) (C : la.ι → Prop) : Prop :=
  ∃ i, la.inv i ∧ (match subSt (la.ren S) n0 S (la.T i) with
    | some l => allP l (C i)
    | none => False)

def firstRegion : Code → Option Nat
  | .region id _ _ => some id
  | .seq a b => (match firstRegion a with | some i => some i | none => firstRegion b)
  | .cond _ a b => (match firstRegion a with | some i => some i | none => firstRegion b)
  | .block _ c | .loop c | .scope c => firstRegion c
  | _ => none

def at? {α : Type 1} (f : Nat → Option α) (o : Option Nat) : Option α :=
  match o with
  | some i => f i
  | none => none

/-- does an operation write, or make memory? -/
def actsB : Op → Bool
  | .store .. | .alloc _ | .box .. | .buildSlice .. | .makeSlice .. | .makeMap .. | .mapUpdate .. | .call _ => true
  | _ => false
def quietB (o : Oper) : Bool :=
  match o.op with
  | .call { callee := .value _, .. } | .call { callee := .builtin .len, .. } | .call { callee := .builtin .min, .. } | .call { callee := .builtin .max, .. } => true
  | op => !(actsB op)
def headLen : List Oper → Nat
  | [] => 0
  | o :: l => (match actsB o.op with | true => 0 | false => headLen l + 1)

def rounds (R : (Exit → St → Prop) → St → Prop) (Q : Exit → St → Prop) : Nat → St → Prop
  | 0, _ => False
  | n + 1, S => R (fun ex S' => match ex with | .normal => rounds R Q n S' | ex => Q ex S') S

/-- a region that draws its order may be walked in the text's order: to be shown by computing -/
def Lex (ops : Array Oper) (k : Option Nat) : Prop := (match k with | none => Region.lexB .any ops | some k => Region.lexTailB .any ops k) = true

def exec (cx : Cx P) : Code → (Exit → St → Prop) → St → Prop
  | .skip, Q, S => Q .normal S
  | .label _, Q, S => Q .normal S
  | .ret, Q, S => Q .ret S
  | .exit i, Q, S => Q (.exit i) S
  | .seq a b, Q, S => (match at? cx.cuts (firstRegion b) with
    | none => exec cx a (fun ex S' => match ex with | .normal => exec cx b Q S' | ex => Q ex S') S
    | some la => exec cx a (fun ex S' => match ex with | .normal => enter la cx.n0 S' (fun _ => True) | ex => Q ex S') S ∧ ∀ i, la.inv i → exec cx b Q (la.T i))
  | .cond c a b, Q, S => (match S.ev c with
    | some (.one (.a c)) => br c (exec cx a Q S) (exec cx b Q S)
    | _ => False)
  | .block id c, Q, S => exec cx c (fun ex S' => match ex with
    | .exit i => (match Nat.beq i id with | true => Q .normal S' | false => Q (.exit i) S')
    | ex => Q ex S') S
  | .loop c, Q, S => (match at? cx.loops (firstRegion c) with
    | none => False
    | some (.inv la) => enter la cx.n0 S (fun _ => True) ∧ ∀ i, la.inv i → exec cx c (fun ex S' => match ex with | .normal => enter la cx.n0 S' (fun i' => la.μ i' < la.μ i) | ex => Q ex S') (la.T i)
    | some (.rounds n) => rounds (exec cx c) Q n S)
  | .region _ ops draw, Q, S => (match draw with
    | false => runOps .norm cx ops ops.toList S (Q .normal)
    | true => (match ops.toList.all quietB with
      | true => Lex ops none ∧ runOps .quiet cx ops ops.toList S (Q .normal)
      | false => Lex ops (some (headLen ops.toList)) ∧ runOps .still cx ops (ops.toList.take (headLen ops.toList)) S fun S' => runOps .norm cx ops (ops.toList.drop (headLen ops.toList)) S' (Q .normal)))
  | _, _, _ => False

end
end Go.Sx

/-
  Part 11: that code so carried out does what it is said to do.
-/
namespace Go.Sx
open Go.RowKit

def Sim (e0 : Env) (n0 : Nat) (w0 : World) (W : Nat → Prop) (S : St) (a : Act) (w : World) : Prop :=
  ∃ e, Rel e w0 W S.m w ∧ RelT e S a ∧ (∀ i, i < n0 → e i = e0 i) ∧ n0 ≤ S.m.length

section
variable {P : Program} {e e0 : Env} {w0 : World} {W : Nat → Prop} {w : World} {S : St} {a : Act}

theorem obs_iff {o : Option Prop} {K : Prop} : obs o K ↔ obp o ∧ K := by
  cases o <;> simp [obs, obp]

theorem br_iff {c : SA} {X Y : Prop} (h : br c X Y) : ∃ b, boolOf c = some b ∧ (b = true → X) ∧ (b = false → Y) := by
  unfold br at h
  split at h
  · exact ⟨true, rfl, fun _ => h, fun h => by cases h⟩
  · exact ⟨false, rfl, fun h => (by cases h), fun _ => h⟩
  · rename_i p d
    refine ⟨@decide p d, rfl, fun hb => h.1 (of_decide_eq_true hb), fun hb => h.2 (of_decide_eq_false hb)⟩
  · rename_i b
    exact ⟨b, rfl, h.1, h.2⟩
  · exact h.elim

theorem Slots.ok_get {n : Nat} : ∀ {t : Slots}, Slots.ok n t = true → ∀ (i : Nat) (v : SV), t.get i = some v → v.ok n = true
  | [], _, i, v, h => by cases h
  | (k, u) :: t, hok, i, v, h => by
    simp only [Slots.ok, Bool.and_eq_true] at hok
    simp only [Slots.get] at h
    split at h
    · cases h; exact hok.1
    · exact Slots.ok_get hok.2 i v h

theorem RelT.ext {e' : Env} (h : RelT e S a) (hok : Slots.ok S.m.length S.t = true) (hag : ∀ i, i < S.m.length → e' i = e i) (m : Mem) : RelT e' (S.withMem m) a :=
  ⟨h.size, h.defers, fun i v hi => by rw [SV.congr hag (Slots.ok_get hok i v hi)]; exact h.get i v hi⟩

theorem RelT.mem (h : RelT e S a) (m : Mem) : RelT e (S.withMem m) a := ⟨h.size, h.defers, h.get⟩

theorem evArgs_ok (ht : RelT e S a) : ∀ {l : List Operand} {r : List SV}, evArgs S l = some r → l.map a.eval = r.map (SV.den e)
  | [], _, h => by cases h; rfl
  | x :: l, r, h => by
    simp only [evArgs] at h
    split at h
    · rename_i v r' hv hr
      cases h
      simp [evArgs_ok ht hr, evOk ht hv]
    · cases h

theorem findP_ok : ∀ {l : List (PSpec P)} {f : FuncId} {args : List SV} {m : Mem} {ob : Option Prop} {v : SV}, findP l f args m = some (ob, v) →
    ∃ s ∈ l, ∃ x, s.f = f ∧ s.inp args m = some x ∧ s.pre x = ob ∧ s.res x = v
  | [], _, _, _, _, _, h => by cases h
  | s :: l, f, args, m, ob, v, h => by
    simp only [findP] at h
    split at h
    · rename_i hf
      split at h
      · rename_i x hx
        cases h
        exact ⟨s, List.mem_cons_self, x, Nat.beq_iff.1 hf, hx, rfl, rfl⟩
      · obtain ⟨s', hs, h2⟩ := findP_ok h
        exact ⟨s', List.mem_cons_of_mem _ hs, h2⟩
    · obtain ⟨s', hs, h2⟩ := findP_ok h
      exact ⟨s', List.mem_cons_of_mem _ hs, h2⟩

theorem findE_ok : ∀ {l : List (ESpec P)} {f : FuncId} {args : List SV} {m : Mem} {ob : Option Prop} {v : List Alt}, findE l f args m = some (ob, v) →
    ∃ s ∈ l, ∃ x, s.f = f ∧ s.inp args m = some x ∧ s.pre x = ob ∧ s.res x = v
  | [], _, _, _, _, _, h => by cases h
  | s :: l, f, args, m, ob, v, h => by
    simp only [findE] at h
    split at h
    · rename_i hf
      split at h
      · rename_i x hx
        cases h
        exact ⟨s, List.mem_cons_self, x, Nat.beq_iff.1 hf, hx, rfl, rfl⟩
      · obtain ⟨s', hs, h2⟩ := findE_ok h
        exact ⟨s', List.mem_cons_of_mem _ hs, h2⟩
    · obtain ⟨s', hs, h2⟩ := findE_ok h
      exact ⟨s', List.mem_cons_of_mem _ hs, h2⟩

/-- the call of a function value, as far as the function's entry -/
theorem call_enter {o : Oper} {f : Operand} {args : Array Operand} {ts : Array TypeId} (hop : o.op = .call { callee := .value f, args, argTypes := ts }) (ht : RelT e S a) {g : FuncId} {caps : List (Nat × Nat)} (hf : S.ev f = some (.one (.a (.clo g caps))))
    {l : List SV} (hl : evArgs S args.toList = some l) : execOp a.eval o = callFunc g ((l ++ caps.map fun c => (.one (.a (.ptr c.1 c.2)) : SV)).map (SV.den e)).toArray := by
  have he := evOk ht hf
  have ha := evArgs_ok ht hl
  have ha' : args.map a.eval = (l.map (SV.den e)).toArray := by apply Array.toList_inj.1; simpa using ha
  have hcap : (caps.map fun c => Value.pointer (at_ e c.1 c.2)) = (caps.map fun c => (.one (.a (.ptr c.1 c.2)) : SV)).map (SV.den e) := by
    rw [List.map_map]; rfl
  simp only [execOp, hop, resolve, he, SV.den, SV1.den, SA.den, Deferred.ofValue, ha', hcap, invoke, List.map_append]
  simp [invoke]

theorem findI_ok : ∀ {l : List (ISpec P)} {f : FuncId} {s : ISpec P}, findI l f = some s → s.f = f
  | [], _, _, h => by cases h
  | x :: l, f, s, h => by
    simp only [findI] at h
    split at h
    · rename_i hb
      cases h
      exact Nat.beq_iff.1 hb
    · exact findI_ok h

theorem runCall_norm {cx : Cx P} {dst : Option Tmp} {f : FuncId} {args : List SV} {K : St → Prop} {K' : Act → World → Prop} (hc : S.can dst = true) (hr : runCall .norm cx dst f args S K) (hs : Sim e0 cx.n0 w0 W S a w)
    (hK : ∀ S' a' w', K S' → Sim e0 cx.n0 w0 W S' a' w' → K' a' w') : ∀ e, Rel e w0 W S.m w → RelT e S a → (∀ i, i < cx.n0 → e i = e0 i) → cx.n0 ≤ S.m.length →
    ((callFunc f (args.map (SV.den e)).toArray).run P w = .ok (.enter f (args.map (SV.den e)).toArray) w ∧ Calls P f (args.map (SV.den e)).toArray w fun r w' => ∃ v, r = .returned v ∧ K' (a.put dst v) w') ∨
    ∃ v, (callFunc f (args.map (SV.den e)).toArray).run P w = .ok (.value v) w ∧ K' (a.put dst v) w := by
  intro e hrel ht he hn
  unfold runCall at hr
  split at hr
  · rename_i ob v hf _
    obtain ⟨s, _, x, rfl, hx, rfl, rfl⟩ := findP_ok hf
    obtain ⟨ho, hk⟩ := obs_iff.1 hr
    rcases s.sound args S.m x hx ho e w0 W w hrel with ⟨h0, h⟩ | h
    · refine .inl ⟨h0, h.mono fun r w' ⟨h1, h2⟩ => ⟨_, h1, hK _ _ _ hk ⟨e, ?_, ht.put hc rfl, he, ?_⟩⟩⟩
      · rw [St.put_m]; exact h2
      · rw [St.put_m]; exact hn
    · refine .inr ⟨_, h, hK _ _ _ hk ⟨e, ?_, ht.put hc rfl, he, ?_⟩⟩
      · rw [St.put_m]; exact hrel
      · rw [St.put_m]; exact hn
  · rename_i ob v hf heq
    cases heq
  · split at hr
    · rename_i ob l hf hok
      obtain ⟨s, _, x, rfl, hx, rfl, rfl⟩ := findE_ok hf
      obtain ⟨ho, hk⟩ := obs_iff.1 hr
      simp only [St.ok, Bool.and_eq_true] at hok
      have after : ∀ (v : SV) (m : Mem) (r : Ending) (w' : World), After e S.m.length w0 W v m r w' → (match Nat.ble cx.n0 m.length with | true => K ((S.withMem m).put dst v) | false => False) → ∃ u, r = .returned u ∧ K' (a.put dst u) w' := by
        rintro v m r w' ⟨e', h1, h2, h3⟩ hk
        split at hk
        · rename_i hle
          have hle := Nat.ble_iff.1 hle
          refine ⟨_, h2, hK _ _ _ hk ⟨e', ?_, (ht.ext hok.1 h1 m).put hc rfl, fun i hi => ?_, ?_⟩⟩
          · rw [St.put_m]; exact h3
          · rw [h1 i (by omega)]; exact he i hi
          · rw [St.put_m]; exact hle
        · exact hk.elim
      refine .inl ⟨s.ent _ _, (s.sound args S.m x hx ho hok.2 e w0 W w hrel).mono fun r w' ⟨al, hal, hsay⟩ => ?_⟩
      have hk2 := altsK_mem hk al hal
      cases al with
      | one v m => exact after v m r w' hsay hk2
      | cond p v m => exact after v m r w' hsay.2 (hk2 hsay.1)
      | fam α p v m =>
        obtain ⟨y, h1, h2⟩ := hsay
        exact after _ _ r w' h2 (hk2 y h1)
    · rename_i hf hok
      simp only [St.ok, Bool.and_eq_true] at hok
      split at hr
      · rename_i s hs
        obtain rfl := findI_ok hs
        refine .inl ⟨s.ent _ _, (s.sound args S.m _ hr e w0 W w hrel).mono fun r w' ⟨v, m, hk, e', h1, h2, h3⟩ => ?_⟩
        split at hk
        · rename_i hle
          have hle := Nat.ble_iff.1 hle
          refine ⟨_, h2, hK _ _ _ hk ⟨e', ?_, (ht.ext hok.1 h1 m).put hc rfl, fun i hi => ?_, ?_⟩⟩
          · rw [St.put_m]; exact h3
          · rw [h1 i (by omega)]; exact he i hi
          · rw [St.put_m]; exact hle
        · exact hk.elim
      · exact hr.elim
    · exact hr.elim
  · exact hr.elim

theorem runOp_norm {cx : Cx P} {o : Oper} {K : St → Prop} {K' : Act → World → Prop} {Q' : Exit → Act → World → Prop} (hr : runOp .norm cx o S K) (hs : Sim e0 cx.n0 w0 W S a w)
    (hK : ∀ S' a' w', K S' → Sim e0 cx.n0 w0 W S' a' w' → K' a' w') : o.wp P a w K' Q' := by
  unfold runOp at hr
  split at hr
  · exact hr.elim
  rename_i hc
  obtain ⟨e, hrel, ht, he, hn⟩ := hs
  split at hr
  · rename_i c x y hop
    split at hr
    · rename_i cv xv yv hcv hxv hyv
      obtain ⟨b, hb, h1, h2⟩ := br_iff hr
      have hce := evOk ht hcv
      simp only [SV.den, SV1.den, boolOf_den hb] at hce
      unfold Oper.wp
      cases b with
      | true =>
        have : (execOp a.eval o).run P w = .ok (.value (xv.den e)) w := by simp [execOp, hop, hce, asBool, evOk ht hxv]
        rw [this]
        exact hK _ _ _ (h1 rfl) ⟨e, by rw [St.put_m]; exact hrel, ht.put hc rfl, he, by rw [St.put_m]; exact hn⟩
      | false =>
        have : (execOp a.eval o).run P w = .ok (.value (yv.den e)) w := by simp [execOp, hop, hce, asBool, evOk ht hyv]
        rw [this]
        exact hK _ _ _ (h2 rfl) ⟨e, by rw [St.put_m]; exact hrel, ht.put hc rfl, he, by rw [St.put_m]; exact hn⟩
    · exact hr.elim
  · rename_i f args ts hop
    split at hr
    · rename_i g caps l hf hl
      have hen := call_enter hop ht hf hl
      unfold Oper.wp
      rcases runCall_norm (K' := K') hc hr ⟨e, hrel, ht, he, hn⟩ hK e hrel ht he hn with ⟨h1, h2⟩ | ⟨v, h1, h2⟩
      · rw [hen, h1]
        refine h2.mono fun r w' ⟨v, hv, hk⟩ => ?_
        subst hv; exact hk
      · rw [hen, h1]
        exact h2
    · exact hr.elim
  · have hg := rdOp_sound (P := P) (o := o) hrel ht
    generalize rdOp P S o = R at hr hg
    unfold Oper.wp
    split at hr
    · obtain ⟨ho, hk⟩ := obs_iff.1 hr
      rw [hg ho]
      exact hK _ _ _ hk ⟨e, by rw [St.put_m]; exact hrel, ht.put hc rfl, he, by rw [St.put_m]; exact hn⟩
    · obtain ⟨ho, hk⟩ := hr
      obtain ⟨pv, hmem, hp, hrun⟩ := hg ho
      rw [hrun]
      have : ∀ {l : List (Prop × SV)}, allAlts (fun v => K (S.put o.dst v)) l → pv ∈ l → K (S.put o.dst pv.2) := by
        intro l
        induction l with
        | nil => intro _ h; cases h
        | cons q l ih =>
          intro h hm
          rcases List.mem_cons.1 hm with rfl | hm
          · exact h.1 hp
          · exact ih h.2 hm
      exact hK _ _ _ (this hk hmem) ⟨e, by rw [St.put_m]; exact hrel, ht.put hc rfl, he, by rw [St.put_m]; exact hn⟩
    · rename_i heq; cases heq
    · rename_i ob r f _
      split at hr
      · rename_i hok
        simp only [Bool.and_eq_true, St.ok] at hok
        obtain ⟨ho, hk⟩ := obs_iff.1 hr
        obtain ⟨o', hn'⟩ := hg ho hok.2
        have hag : ∀ i, i < S.m.length → (fun i => if i = S.m.length then some ⟨w.heap.size, 0, none⟩ else e i) i = e i := fun i hi => by
          show (if i = S.m.length then _ else e i) = _
          rw [if_neg (by omega)]
        obtain ⟨hrun, hreg⟩ := hn' (fun i => if i = S.m.length then some ⟨w.heap.size, 0, none⟩ else e i) hag (by simp)
        rw [hrun]
        refine hK _ _ _ hk ⟨_, ?_, (ht.ext hok.1.1 hag (S.m ++ [some r])).put (S := S.withMem (S.m ++ [some r])) hc rfl, fun i hi => ?_, ?_⟩
        · rw [St.put_m]; exact hrel.alloc hag (by simp) hok.1.2 hreg
        · show (if i = S.m.length then _ else e i) = _
          rw [if_neg (by omega)]; exact he i hi
        · rw [St.put_m]; simp [St.withMem]; omega
      · exact hr.elim
    · rename_i ob gone st len reg _
      split at hr
      · rename_i hok
        simp only [St.ok, Bool.and_eq_true] at hok
        obtain ⟨ho, hk⟩ := hr
        obtain ⟨cap, tl, A, w', h1, h2, hrun, hrel'⟩ := hg ho hok.2
        have hag : ∀ i, i < S.m.length → (fun i => if i = S.m.length then A else e i) i = e i := fun i hi => by
          show (if i = S.m.length then _ else e i) = _
          rw [if_neg (by omega)]
        have hlen : (goneR gone S.m).length = S.m.length := by cases gone <;> simp [goneR]
        rw [hrun]
        refine hK _ _ _ (hk cap tl h1 h2) ⟨_, ?_, (ht.ext hok.1 hag (goneR gone S.m ++ [some (reg cap tl)])).put (S := S.withMem (goneR gone S.m ++ [some (reg cap tl)])) hc ?_, fun i hi => ?_, ?_⟩
        · rw [St.put_m]; exact hrel' _ hag (by simp)
        · cases A <;> simp [SV.den, SV1.den, SA.den, at_, Addr.add_zero']
        · exact (hag i (by omega)).trans (he i hi)
        · rw [St.put_m]; simp [St.withMem, hlen]; omega
      · exact hr.elim
    · rename_i ob i r _
      obtain ⟨ho, hk⟩ := obs_iff.1 hr
      obtain ⟨w', hrun, hrel'⟩ := hg ho
      rw [hrun]
      refine hK _ _ _ hk ⟨e, ?_, (ht.mem (S.m.set i (some r))).put (S := S.withMem (S.m.set i (some r))) hc rfl, he, ?_⟩
      · rw [St.put_m]; exact hrel'
      · rw [St.put_m]; simp [St.withMem]; exact hn
    · exact hr.elim

/-! ### Guards -/

theorem wanted_guard {all : Array Oper} {o : Oper} {j : Nat} {want : Bool} {d : Tmp} {c : SA} {b : Bool} (ht : RelT e S a) (hg : o.guard = some (j, want)) (hd : (all[j]?).bind (·.dst) = some d) (hc : S.t.get d = some (.one (.a c))) (hb : boolOf c = some b) :
    Region.wanted o (yielded all a.tmps) = (b == want) := by
  have h1 := ht.get d _ hc
  simp only [SV.den, SV1.den, boolOf_den hb] at h1
  simp only [Region.wanted, hg, yielded, hd, Option.bind_some, h1]
  cases b <;> cases want <;> rfl

theorem unwanted_guard {all : Array Oper} {o : Oper} {j : Nat} {want : Bool} {d : Tmp} (ht : RelT e S a) (hg : o.guard = some (j, want)) (hd : (all[j]?).bind (·.dst) = some d) (hc : S.t.get d = some (.tup [])) :
    Region.wanted o (yielded all a.tmps) = false := by
  have h1 := ht.get d _ hc
  simp only [SV.den, List.map_nil] at h1
  simp only [Region.wanted, hg, yielded, hd, Option.bind_some, h1]
  rfl

theorem RelT.know {d : Tmp} {c : SA} {b : Bool} (ht : RelT e S a) (hc : S.t.get d = some (.one (.a c))) (hb : boolOf c = some b) : RelT e (S.put (some d) (.one (.a (if b then .tt else .ff)))) a := by
  refine ⟨ht.size, ht.defers, fun i v hi => ?_⟩
  simp only [St.put, Slots.get] at hi
  split at hi
  · rename_i hd
    have := Nat.beq_iff.1 hd
    subst this
    cases hi
    rw [ht.get d _ hc]
    simp only [SV.den, SV1.den, boolOf_den hb]
    cases b <;> rfl
  · exact ht.get i v hi

theorem runOps_norm {cx : Cx P} {all : Array Oper} {Q' : Exit → Act → World → Prop} {K : St → Prop} (hK : ∀ S' a' w', K S' → Sim e0 cx.n0 w0 W S' a' w' → Q' .normal a' w') : ∀ (l : List Oper) (S : St) (a : Act) (w : World),
    runOps .norm cx all l S K → Sim e0 cx.n0 w0 W S a w → wpList P all Q' l a w
  | [], S, a, w, hr, hs => hK S a w hr hs
  | o :: rest, S, a, w, hr, hs => by
    simp only [runOps] at hr
    have ih := fun S a w => runOps_norm (all := all) hK rest S a w
    split at hr
    · rename_i hg
      unfold wpList
      rw [if_pos (by simp [Region.wanted, hg])]
      exact .inl (runOp_norm hr hs ih)
    · rename_i j want hg
      split at hr
      · exact hr.elim
      · rename_i d hd
        split at hr
        · rename_i c hc hcan
          obtain ⟨b, hb, h1, h2⟩ := br_iff hr
          obtain ⟨e, hrel, ht, he, hn⟩ := hs
          have hw := wanted_guard (all := all) ht hg hd hc hb
          have hk := ht.know hc hb
          unfold wpList
          rw [hw]
          have skip : ∀ x : SA, RelT e (S.put (some d) (.one (.a x))) a → Sim e0 cx.n0 w0 W ((S.put (some d) (.one (.a x))).put o.dst (.tup [])) (a.put o.dst undef) w := fun x hx =>
            ⟨e, by rw [St.put_m]; exact hrel, hx.put (by cases hd' : o.dst with | none => rfl | some q => rw [hd'] at hcan; exact hcan) rfl, he, by rw [St.put_m]; exact hn⟩
          cases b with
          | true =>
            have h1 := h1 rfl
            have hk : RelT e (S.put (some d) (.one (.a .tt))) a := hk
            cases want with
            | true =>
              simp only [sel] at h1
              rw [if_pos (by decide)]
              exact .inl (runOp_norm h1 ⟨e, hrel, hk, he, hn⟩ ih)
            | false =>
              simp only [sel] at h1
              rw [if_neg (by simp)]
              exact ih _ _ _ h1 (skip _ hk)
          | false =>
            have h2 := h2 rfl
            have hk : RelT e (S.put (some d) (.one (.a .ff))) a := hk
            cases want with
            | true =>
              simp only [sel] at h2
              rw [if_neg (by simp)]
              exact ih _ _ _ h2 (skip _ hk)
            | false =>
              simp only [sel] at h2
              rw [if_pos (by decide)]
              exact .inl (runOp_norm h2 ⟨e, hrel, hk, he, hn⟩ ih)
        · rename_i hc hcan
          obtain ⟨e, hrel, ht, he, hn⟩ := hs
          unfold wpList
          rw [unwanted_guard (all := all) ht hg hd hc, if_neg (by simp)]
          exact ih _ _ _ hr ⟨e, by rw [St.put_m]; exact hrel, ht.put hcan rfl, he, by rw [St.put_m]; exact hn⟩
        · exact hr.elim

/-! ### A region that draws its order: operations that leave the world as it is -/

theorem runOp_still {cx : Cx P} {o : Oper} {K : St → Prop} {K' : Act → Prop} (hr : runOp .still cx o S K) (hrel : Rel e w0 W S.m w) (ht : RelT e S a)
    (hK : ∀ S' a', K S' → S'.m = S.m → RelT e S' a' → K' a') : o.still P a w K' := by
  unfold runOp at hr
  split at hr
  · exact hr.elim
  rename_i hc
  split at hr
  · rename_i c x y hop
    split at hr
    · rename_i cv xv yv hcv hxv hyv
      obtain ⟨b, hb, h1, h2⟩ := br_iff hr
      have hce := evOk ht hcv
      simp only [SV.den, SV1.den, boolOf_den hb] at hce
      unfold Oper.still
      cases b with
      | true =>
        have : (execOp a.eval o).run P w = .ok (.value (xv.den e)) w := by simp [execOp, hop, hce, asBool, evOk ht hxv]
        rw [this]
        exact ⟨rfl, hK _ _ (h1 rfl) (St.put_m ..) (ht.put hc rfl)⟩
      | false =>
        have : (execOp a.eval o).run P w = .ok (.value (yv.den e)) w := by simp [execOp, hop, hce, asBool, evOk ht hyv]
        rw [this]
        exact ⟨rfl, hK _ _ (h2 rfl) (St.put_m ..) (ht.put hc rfl)⟩
    · exact hr.elim
  · rename_i f args ts hop
    split at hr
    · unfold runCall at hr
      split at hr
      · rename_i heq; cases heq
      · rename_i heq; cases heq
      · rename_i heq; cases heq
      · exact hr.elim
    · exact hr.elim
  · have hg := rdOp_sound (P := P) (o := o) hrel ht
    generalize rdOp P S o = R at hr hg
    unfold Oper.still
    split at hr
    · obtain ⟨ho, hk⟩ := obs_iff.1 hr
      rw [hg ho]
      exact ⟨rfl, hK _ _ hk (St.put_m ..) (ht.put hc rfl)⟩
    · rename_i heq; cases heq
    · obtain ⟨ho, hk⟩ := hr
      obtain ⟨pv, hmem, hp, hrun⟩ := hg ho
      rw [hrun]
      have : ∀ {l : List (Prop × SV)}, allAlts (fun v => K (S.put o.dst v)) l → pv ∈ l → K (S.put o.dst pv.2) := by
        intro l
        induction l with
        | nil => intro _ h; cases h
        | cons q l ih =>
          intro h hm
          rcases List.mem_cons.1 hm with rfl | hm
          · exact h.1 hp
          · exact ih h.2 hm
      exact ⟨rfl, hK _ _ (this hk hmem) (St.put_m ..) (ht.put hc rfl)⟩
    · rename_i heq; cases heq
    · rename_i heq; cases heq
    · rename_i heq; cases heq
    · exact hr.elim

theorem runOps_still {cx : Cx P} {all : Array Oper} {w : World} {m : Mem} {K : St → Prop} {K' : Act → Prop} (hrel : Rel e w0 W m w) (hK : ∀ S' a', K S' → S'.m = m → RelT e S' a' → K' a') : ∀ (l : List Oper) (S : St) (a : Act),
    runOps .still cx all l S K → S.m = m → RelT e S a → wpStill P all w K' l a
  | [], S, a, hr, hm, ht => hK S a hr hm ht
  | o :: rest, S, a, hr, hm, ht => by
    subst hm
    simp only [runOps] at hr
    have ih := fun S' a' (h1 : runOps .still cx all rest S' K) (h2 : S'.m = S.m) (h3 : RelT e S' a') => runOps_still hrel hK rest S' a' h1 h2 h3
    split at hr
    · rename_i hg
      unfold wpStill
      rw [if_pos (by simp [Region.wanted, hg])]
      exact runOp_still hr hrel ht ih
    · rename_i j want hg
      split at hr
      · exact hr.elim
      · rename_i d hd
        split at hr
        · rename_i c hc hcan
          obtain ⟨b, hb, h1, h2⟩ := br_iff hr
          have hw := wanted_guard (all := all) ht hg hd hc hb
          have hk := ht.know hc hb
          unfold wpStill
          rw [hw]
          have cn : ∀ x : SA, (S.put (some d) (.one (.a x))).can o.dst = true := fun x => by
            cases hd' : o.dst with | none => rfl | some q => rw [hd'] at hcan; exact hcan
          cases b with
          | true =>
            have h1 := h1 rfl
            have hk : RelT e (S.put (some d) (.one (.a .tt))) a := hk
            cases want with
            | true =>
              simp only [sel] at h1
              rw [if_pos (by decide)]
              exact runOp_still (S := S.put (some d) (.one (.a .tt))) h1 hrel hk ih
            | false =>
              simp only [sel] at h1
              rw [if_neg (by simp)]
              exact ih _ _ h1 (St.put_m ..) (hk.put (cn _) rfl)
          | false =>
            have h2 := h2 rfl
            have hk : RelT e (S.put (some d) (.one (.a .ff))) a := hk
            cases want with
            | true =>
              simp only [sel] at h2
              rw [if_neg (by simp)]
              exact ih _ _ h2 (St.put_m ..) (hk.put (cn _) rfl)
            | false =>
              simp only [sel] at h2
              rw [if_pos (by decide)]
              exact runOp_still (S := S.put (some d) (.one (.a .ff))) h2 hrel hk ih
        · rename_i hc hcan
          unfold wpStill
          rw [unwanted_guard (all := all) ht hg hd hc, if_neg (by simp)]
          exact ih _ _ hr (St.put_m ..) (ht.put hcan rfl)
        · exact hr.elim

/-! ### .. and calls that leave the known memory as it is -/

theorem runOp_quiet {cx : Cx P} {o : Oper} {K : St → Prop} {K' : Act → Prop} (hr : runOp .quiet cx o S K) (ht : RelT e S a)
    (hK : ∀ S' a', K S' → S'.m = S.m → RelT e S' a' → K' a') : o.quiet P a (Rel e w0 W S.m) K' := by
  unfold runOp at hr
  split at hr
  · exact hr.elim
  rename_i hc
  split at hr
  · rename_i c x y hop
    split at hr
    · rename_i cv xv yv hcv hxv hyv
      obtain ⟨b, hb, h1, h2⟩ := br_iff hr
      have hce := evOk ht hcv
      simp only [SV.den, SV1.den, boolOf_den hb] at hce
      cases b with
      | true =>
        refine ⟨xv.den e, fun w _ => ?_, hK _ _ (h1 rfl) (St.put_m ..) (ht.put hc rfl)⟩
        have : (execOp a.eval o).run P w = .ok (.value (xv.den e)) w := by simp [execOp, hop, hce, asBool, evOk ht hxv]
        unfold Oper.quietAt
        rw [this]; exact ⟨rfl, rfl⟩
      | false =>
        refine ⟨yv.den e, fun w _ => ?_, hK _ _ (h2 rfl) (St.put_m ..) (ht.put hc rfl)⟩
        have : (execOp a.eval o).run P w = .ok (.value (yv.den e)) w := by simp [execOp, hop, hce, asBool, evOk ht hyv]
        unfold Oper.quietAt
        rw [this]; exact ⟨rfl, rfl⟩
    · exact hr.elim
  · rename_i f args ts hop
    split at hr
    · rename_i g caps l hf hl
      have hen := call_enter hop ht hf hl
      unfold runCall at hr
      split at hr
      · rename_i heq; cases heq
      · rename_i ob v hfp heq
        obtain ⟨s, _, x, rfl, hx, rfl, rfl⟩ := findP_ok hfp
        obtain ⟨ho, hk⟩ := obs_iff.1 hr
        refine ⟨(s.res x).den e, fun w hw => ?_, hK _ _ hk (St.put_m ..) (ht.put hc rfl)⟩
        unfold Oper.quietAt
        rcases s.sound _ _ x hx ho e w0 W w hw with ⟨h0, h⟩ | h
        · rw [hen, h0]
          exact ⟨rfl, h⟩
        · rw [hen, h]
          exact ⟨rfl, rfl⟩
      · rename_i heq; cases heq
      · exact hr.elim
    · exact hr.elim
  · generalize hR : rdOp P S o = R at hr
    split at hr
    · rename_i ob v
      obtain ⟨ho, hk⟩ := obs_iff.1 hr
      refine ⟨v.den e, fun w hw => ?_, hK _ _ hk (St.put_m ..) (ht.put hc rfl)⟩
      have hg := rdOp_sound (P := P) (o := o) hw ht
      rw [hR] at hg
      unfold Oper.quietAt
      rw [hg ho]; exact ⟨rfl, rfl⟩
    · rename_i heq; cases heq
    · rename_i heq; cases heq
    · rename_i heq; cases heq
    · rename_i heq; cases heq
    · rename_i heq; cases heq
    · exact hr.elim

theorem runOps_quiet {cx : Cx P} {all : Array Oper} {m : Mem} {K : St → Prop} {K' : Act → Prop} (hK : ∀ S' a', K S' → S'.m = m → RelT e S' a' → K' a') : ∀ (l : List Oper) (S : St) (a : Act),
    runOps .quiet cx all l S K → S.m = m → RelT e S a → wpQuiet P all (Rel e w0 W m) K' l a
  | [], S, a, hr, hm, ht => hK S a hr hm ht
  | o :: rest, S, a, hr, hm, ht => by
    subst hm
    simp only [runOps] at hr
    have ih := fun S' a' (h1 : runOps .quiet cx all rest S' K) (h2 : S'.m = S.m) (h3 : RelT e S' a') => runOps_quiet hK rest S' a' h1 h2 h3
    split at hr
    · rename_i hg
      unfold wpQuiet
      rw [if_pos (by simp [Region.wanted, hg])]
      exact runOp_quiet hr ht ih
    · rename_i j want hg
      split at hr
      · exact hr.elim
      · rename_i d hd
        split at hr
        · rename_i c hc hcan
          obtain ⟨b, hb, h1, h2⟩ := br_iff hr
          have hw := wanted_guard (all := all) ht hg hd hc hb
          have hk := ht.know hc hb
          unfold wpQuiet
          rw [hw]
          have cn : ∀ x : SA, (S.put (some d) (.one (.a x))).can o.dst = true := fun x => by
            cases hd' : o.dst with | none => rfl | some q => rw [hd'] at hcan; exact hcan
          cases b with
          | true =>
            have h1 := h1 rfl
            have hk : RelT e (S.put (some d) (.one (.a .tt))) a := hk
            cases want with
            | true =>
              simp only [sel] at h1
              rw [if_pos (by decide)]
              exact runOp_quiet (S := S.put (some d) (.one (.a .tt))) h1 hk ih
            | false =>
              simp only [sel] at h1
              rw [if_neg (by simp)]
              exact ih _ _ h1 (St.put_m ..) (hk.put (cn _) rfl)
          | false =>
            have h2 := h2 rfl
            have hk : RelT e (S.put (some d) (.one (.a .ff))) a := hk
            cases want with
            | true =>
              simp only [sel] at h2
              rw [if_neg (by simp)]
              exact ih _ _ h2 (St.put_m ..) (hk.put (cn _) rfl)
            | false =>
              simp only [sel] at h2
              rw [if_pos (by decide)]
              exact runOp_quiet (S := S.put (some d) (.one (.a .ff))) h2 hk ih
        · rename_i hc hcan
          unfold wpQuiet
          rw [unwanted_guard (all := all) ht hg hd hc, if_neg (by simp)]
          exact ih _ _ hr (St.put_m ..) (ht.put hcan rfl)
        · exact hr.elim

end
end Go.Sx

/-
  Part 12: code is sound; functions.
-/
namespace Go.Sx
open Go.RowKit

section
variable {P : Program} {e e0 : Env} {w0 : World} {W : Nat → Prop} {w : World} {S : St} {a : Act}

theorem idB_ok : ∀ {n j : Nat} {l : List Nat}, idB n j l = true → ∀ i, i < n → l[i]? = some (j + i)
  | 0, _, _, _, i, hi => by omega
  | n + 1, j, x :: l, h, i, hi => by
    simp only [idB, Bool.and_eq_true] at h
    have hx := Nat.beq_iff.1 h.1
    cases i with
    | zero => simp [hx]
    | succ i =>
      have := idB_ok h.2 i (by omega)
      simp only [List.getElem?_cons_succ, this]; congr 1; omega
  | n + 1, j, [], h, _, _ => by cases h

theorem subSlots_get {ρ : List Nat} {t : Slots} : ∀ {r : Slots} {l : List Prop}, subSlots ρ t r = some l → Holds l → ∀ (k : Nat) (v : SV), r.get k = some v → ∃ u l', t.get k = some u ∧ eqSV (v.ren ρ) u = some l' ∧ Holds l'
  | [], _, _, _, k, v, hv => by cases hv
  | (k', v') :: r, l, h, hl, k, v, hv => by
    simp only [subSlots] at h
    split at h
    · rename_i u hu
      obtain ⟨x, y, h1, h2, rfl⟩ := app2_some h
      obtain ⟨h3, h4⟩ := holds_app hl
      simp only [Slots.get] at hv
      split at hv
      · rename_i hk
        have := Nat.beq_iff.1 hk
        subst this
        cases hv
        exact ⟨u, x, hu, h1, h3⟩
      · exact subSlots_get h2 h4 k v hv
    · cases h

theorem Sim.sub {n0 : Nat} {T : St} {ρ : List Nat} {l : List Prop} (hs : Sim e0 n0 w0 W S a w) (h : subSt ρ n0 S T = some l) (hl : Holds l) : Sim e0 n0 w0 W T a w := by
  obtain ⟨e, hrel, ht, he, hn⟩ := hs
  unfold subSt at h
  split at h
  · rename_i h1 h2 h3 h4 h5
    have h1 := Nat.beq_iff.1 h1
    have h3 := Nat.ble_iff.1 h3
    have h5 := Nat.ble_iff.1 h5
    obtain ⟨x, y, h6, h7, rfl⟩ := app2_some h
    obtain ⟨h8, h9⟩ := holds_app hl
    refine ⟨renE e ρ, hrel.sub h7 h9 h3 h4, ⟨ht.size.trans h1, ht.defers, fun i v hi => ?_⟩, fun i hi => ?_, h5⟩
    · obtain ⟨u, l', h10, h11, h12⟩ := subSlots_get h6 h8 i v hi
      rw [ht.get i u h10, ← eqSV_den h11 h12, SV.den_ren]
    · have := idB_ok h2 i hi
      rw [Nat.zero_add] at this
      simp only [renE, rn, List.getD, this, Option.getD_some]
      exact he i hi
  · cases h

theorem enter_sound {la : LA} {n0 : Nat} {C : la.ι → Prop} (h : enter la n0 S C) (hs : Sim e0 n0 w0 W S a w) : ∃ i, la.inv i ∧ C i ∧ Sim e0 n0 w0 W (la.T i) a w := by
  obtain ⟨i, hi, h⟩ := h
  split at h
  · rename_i l hl
    obtain ⟨h1, h2⟩ := allP_iff.1 h
    exact ⟨i, hi, h2, hs.sub hl h1⟩
  · exact h.elim

/-- what is said at an exit, and what is asked there -/
def Okay (e0 : Env) (n0 : Nat) (w0 : World) (W : Nat → Prop) (Q : Exit → St → Prop) (Q' : Exit → Act → World → Prop) : Prop :=
  ∀ ex S' a' w', Q ex S' → Sim e0 n0 w0 W S' a' w' → Q' ex a' w'

theorem exec_sound (hm : P.follows .mixedOrders = true) (cx : Cx P) : ∀ (c : Code) (Q : Exit → St → Prop) (S : St) (a : Act) (w : World) (Q' : Exit → Act → World → Prop),
    exec cx c Q S → Sim e0 cx.n0 w0 W S a w → Okay e0 cx.n0 w0 W Q Q' → c.wp P Q' a w := by
  intro c
  induction c with
  | skip => intro Q S a w Q' h hs hq; exact wp_skip (hq _ _ _ _ h hs)
  | label l => intro Q S a w Q' h hs hq; exact wp_label (hq _ _ _ _ h hs)
  | ret => intro Q S a w Q' h hs hq; exact wp_ret (hq _ _ _ _ h hs)
  | exit i => intro Q S a w Q' h hs hq; exact wp_exit (hq _ _ _ _ h hs)
  | seq x y ihx ihy =>
    intro Q S a w Q' h hs hq
    simp only [exec] at h
    refine wp_seq ?_
    split at h
    · refine ihx _ S a w _ h hs ?_
      intro ex S' a' w' h' hs'
      cases ex with
      | normal => exact ihy Q S' a' w' Q' h' hs' hq
      | _ => exact hq _ _ _ _ h' hs'
    · rename_i la _
      obtain ⟨h1, h2⟩ := h
      refine ihx _ S a w _ h1 hs ?_
      intro ex S' a' w' h' hs'
      cases ex with
      | normal =>
        obtain ⟨i, hi, _, hs2⟩ := enter_sound h' hs'
        exact ihy Q (la.T i) a' w' Q' (h2 i hi) hs2 hq
      | _ => exact hq _ _ _ _ h' hs'
  | cond c x y ihx ihy =>
    intro Q S a w Q' h hs hq
    simp only [exec] at h
    split at h
    · rename_i cv hc
      obtain ⟨b, hb, h1, h2⟩ := br_iff h
      have hs0 := hs
      obtain ⟨e, hrel, ht, he, hn⟩ := hs
      have hce := evOk ht hc
      simp only [SV.den, SV1.den, boolOf_den hb] at hce
      cases b with
      | true => exact wp_cond_true hce (ihx Q S a w Q' (h1 rfl) hs0 hq)
      | false => exact wp_cond_false hce (ihy Q S a w Q' (h2 rfl) hs0 hq)
    · exact h.elim
  | block id c ih =>
    intro Q S a w Q' h hs hq
    simp only [exec] at h
    refine wp_block (ih _ S a w _ h hs ?_)
    intro ex S' a' w' h' hs'
    cases ex with
    | exit i =>
      simp only at h'
      simp only [Exit.inBlock]
      split at h'
      · rename_i hi
        rw [if_pos (Nat.beq_iff.1 hi)]
        exact hq _ _ _ _ h' hs'
      · rename_i hi
        rw [if_neg (fun hh => by rw [hh] at hi; simp at hi)]
        exact hq _ _ _ _ h' hs'
    | _ => exact hq _ _ _ _ h' hs'
  | loop c ih =>
    intro Q S a w Q' h hs hq
    simp only [exec] at h
    split at h
    · exact h.elim
    · rename_i la _
      obtain ⟨h1, h2⟩ := h
      obtain ⟨i, hi, _, hs1⟩ := enter_sound h1 hs
      have key : ∀ (k : Nat) (i : la.ι) (a : Act) (w : World), la.μ i < k → la.inv i → Sim e0 cx.n0 w0 W (la.T i) a w → Code.rounds P c Q' k a w := by
        intro k
        induction k with
        | zero => intro i a w hk; omega
        | succ k ihk =>
          intro i a w hk hi hs
          show c.wp P (Exit.then (Code.rounds P c Q' k) Q') a w
          refine ih _ (la.T i) a w _ (h2 i hi) hs ?_
          intro ex S' a' w' h' hs'
          cases ex with
          | normal =>
            obtain ⟨i', hi', hlt, hs2⟩ := enter_sound h' hs'
            exact ihk i' a' w' (by omega) hi' hs2
          | _ => exact hq _ _ _ _ h' hs'
      exact wp_loop_rounds (la.μ i + 1) (key _ i a w (by omega) hi hs1)
    · rename_i n _
      have key : ∀ (n : Nat) (S : St) (a : Act) (w : World), rounds (exec cx c) Q n S → Sim e0 cx.n0 w0 W S a w → Code.rounds P c Q' n a w := by
        intro n
        induction n with
        | zero => intro S a w h; exact h.elim
        | succ n ihn =>
          intro S a w h hs
          show c.wp P (Exit.then (Code.rounds P c Q' n) Q') a w
          refine ih _ S a w _ h hs ?_
          intro ex S' a' w' h' hs'
          cases ex with
          | normal => exact ihn S' a' w' h' hs'
          | _ => exact hq _ _ _ _ h' hs'
      exact wp_loop_rounds n (key n S a w h hs)
  | region id ops draw =>
    intro Q S a w Q' h hs hq
    simp only [exec] at h
    split at h
    · refine wp_region_list ?_
      exact runOps_norm (fun S' a' w' h' hs' => hq _ _ _ _ h' hs') ops.toList S a w h hs
    · split at h
      · obtain ⟨hB, h⟩ := h
        obtain ⟨e, hrel, ht, he, hn⟩ := hs
        refine wp_region_quiet (C := Rel e w0 W S.m) hm hB hrel.drew ?_
        refine runOps_quiet (fun S' a' h' hm' ht' => ?_) ops.toList S a h rfl ht
        intro w' hw'
        exact hq _ _ _ _ h' ⟨e, by rw [hm']; exact hw', ht', he, by rw [hm']; exact hn⟩
      · obtain ⟨hB, h⟩ := h
        obtain ⟨e, hrel, ht, he, hn⟩ := hs
        have hops : ops = ops.toList.toArray := by simp
        rw [hops]
        refine wp_region_still_tail (headLen ops.toList) hm (by rw [← hops]; exact hB) ?_
        refine runOps_still (m := S.m) (cx := cx) (K := fun S' => runOps .norm cx ops (ops.toList.drop (headLen ops.toList)) S' (Q .normal)) hrel.drew (fun S' a' h' hm' ht' => ?_) _ S a (by rw [← hops]; exact h) rfl ht
        exact runOps_norm (cx := cx) (fun S' a' w' h' hs' => hq _ _ _ _ h' hs') _ S' a' _ (by rw [← hops]; exact h') ⟨e, by rw [hm']; exact hrel.drew, ht', he, by rw [hm']; exact hn⟩
  | rangeFunc f ps x y _ _ => intro Q S a w Q' h; exact h.elim
  | scope c _ => intro Q S a w Q' h; exact h.elim
  | goto l => intro Q S a w Q' h; exact h.elim
  | refuse s => intro Q S a w Q' h; exact h.elim

end
end Go.Sx

/-
  Part 13: a function's contract out of its body, carried out.
-/
namespace Go.Sx
open Go.RowKit

def slots0 : Nat → List SV → Slots
  | _, [] => []
  | i, v :: l => (i, v) :: slots0 (i + 1) l

def St0 (n : Nat) (args : List SV) (m : Mem) : St := ⟨n, slots0 0 args, m⟩

section
variable {P : Program}

def resOf (P : Program) (S : St) : List ResultVar → Option (List SV1)
  | [] => some []
  | .tmp t :: l => (match S.t.get t, resOf P S l with | some (.one v), some r => some (v :: r) | _, _ => none)
  | .cell t ty :: l => (match S.t.get t, resOf P S l with
    | some (.one (.a p)), some r => (match rdLoad P S.m ty p with | .val none (.one v) => some (v :: r) | _ => none)
    | _, _ => none)

def retOf (P : Program) (S : St) (rs : List ResultVar) : Option SV :=
  match resOf P S rs with
  | some [v] => some (.one v)
  | some l => some (.tup l)
  | none => none

/-- the body's end -/
def fin (P : Program) (fn : Func) (post : SV → Mem → Prop) (ex : Exit) (S : St) : Prop :=
  match ex with
  | .normal | .ret => (match retOf P S fn.results.toList with
    | some v => post v S.m
    | none => False)
  | _ => False

def body? (fn : Func) : Code := match fn.body with | some c => c | none => .refuse ""

/-- a function's body comes to 'post' -/
def Runs (cx : Cx P) (fn : Func) (args : List SV) (m : Mem) (post : SV → Mem → Prop) : Prop :=
  match Nat.ble args.length fn.ntmps, fn.body with
  | true, some c => exec cx c (fin P fn post) (St0 fn.ntmps args m)
  | _, _ => False

variable {e : Env} {w0 : World} {W : Nat → Prop} {w : World} {S : St} {a : Act}

theorem slots0_get {i : Nat} : ∀ {l : List SV} {j : Nat} {v : SV}, (slots0 i l).get j = some v → i ≤ j ∧ l[j - i]? = some v
  | [], _, _, h => by cases h
  | x :: l, j, v, h => by
    simp only [slots0, Slots.get] at h
    split at h
    · rename_i hk
      have := Nat.beq_iff.1 hk
      subst this
      cases h
      exact ⟨Nat.le_refl _, by simp⟩
    · rename_i hk
      have hne : i ≠ j := fun hh => by rw [hh] at hk; simp at hk
      obtain ⟨h1, h2⟩ := slots0_get (i := i + 1) h
      exact ⟨by omega, by rw [show j - i = (j - (i + 1)) + 1 by omega]; simpa using h2⟩

theorem relT0 {n : Nat} {args : List SV} {m : Mem} (hn : args.length ≤ n) : RelT e (St0 n args m) { tmps := (args.map (SV.den e)).toArray ++ Array.replicate (n - (args.map (SV.den e)).toArray.size) undef, defers := [] } := by
  refine ⟨by simp [St0]; omega, rfl, fun i v hi => ?_⟩
  obtain ⟨_, h⟩ := slots0_get hi
  rw [Nat.sub_zero] at h
  have hl : i < args.length := (List.getElem?_eq_some_iff.1 h).1
  rw [Array.getElem?_append_left (by simpa using hl)]
  simp [h]

def rdRes (tmps : Array Value) : ResultVar → Sem Value
  | .tmp t => pure (tmps.getD t undef)
  | .cell p t => do loadVar t (← asAddr (tmps.getD p undef))

theorem resOf_ok (ht : RelT e S a) (hrel : Rel e w0 W S.m w) : ∀ {rs : List ResultVar} {l : List SV1}, resOf P S rs = some l →
    (rs.mapM (rdRes a.tmps)).run P w = .ok (l.map (SV1.den e)) w
  | [], _, h => by cases h; simp
  | .tmp t :: rs, l, h => by
    simp only [resOf] at h
    split at h
    · rename_i v r hv hr
      cases h
      have ih := resOf_ok ht hrel hr
      have hg := ht.get t _ hv
      rw [List.mapM_cons]
      simp only [Sem.run_bind, rdRes, Sem.run_pure, Result.andThen_ok, ih]
      simp [hg, SV.den]
    · cases h
  | .cell p ty :: rs, l, h => by
    simp only [resOf] at h
    split at h
    · rename_i q r hv hr
      split at h
      · rename_i v hl
        cases h
        have ih := resOf_ok ht hrel hr
        have hg := ht.get p _ hv
        have hload := rdLoad_ok hrel hl trivial
        have hg' : a.tmps.getD p undef = q.den e := by simp [hg, SV.den, SV1.den]
        rw [List.mapM_cons]
        simp only [Sem.run_bind, rdRes, Sem.run_pure, Result.andThen_ok, ih, hg']
        simp only [Instr.loadAt, Sem.run_bind] at hload
        cases hq : q.den e with
        | pointer A =>
          rw [hq] at hload
          cases A with
          | none => simp [Instr.sureAddr] at hload
          | some A =>
            simp only [Instr.sureAddr, Sem.run_pure, Result.andThen_ok] at hload
            simp only [asAddr, Sem.run_pure, Result.andThen_ok, hload]
            simp only [ih, Result.andThen_ok]
            rfl
        | _ => rw [hq] at hload; simp [Instr.sureAddr] at hload
      · cases h
    · cases h

theorem retOf_ok {fn : Func} (ht : RelT e S a) (hrel : Rel e w0 W S.m w) {v : SV} (h : retOf P S fn.results.toList = some v) : (results fn a.tmps).run P w = .ok (v.den e) w := by
  unfold retOf at h
  have key : ∀ {l : List SV1}, resOf P S fn.results.toList = some l → (results fn a.tmps).run P w = .ok (if h : (l.map (SV1.den e)).toArray.size = 1 then (l.map (SV1.den e)).toArray[0] else .tuple (l.map (SV1.den e)).toArray) w := by
    intro l hl
    have := resOf_ok (P := P) ht hrel hl
    have hrs : results fn a.tmps = (do let vs ← fn.results.mapM (rdRes a.tmps); pure (if h : vs.size = 1 then vs[0] else .tuple vs)) := by
      unfold results
      have hfun : (rdRes a.tmps) = (fun | .tmp t => (pure (a.tmps.getD t undef) : Sem Value) | .cell p t => do loadVar t (← asAddr (a.tmps.getD p undef))) := by
        funext r
        cases r <;> rfl
      rw [hfun]
      rfl
    rw [hrs, Array.mapM_eq_mapM_toList]
    simp only [Sem.run_bind, Sem.run_map]
    rw [this]
    simp
  split at h
  · rename_i u hu
    cases h
    rw [key hu]; rfl
  · rename_i l hne hl
    cases h
    rw [key hl]
    rw [dif_neg]
    · rfl
    · intro hs
      simp at hs
      match l, hs with
      | [u], _ => exact hne u rfl
  · cases h

theorem runs_sound (hm : P.follows .mixedOrders = true) {f : FuncId} {fn : Func} (hf : P.funcs[f]? = some fn) {cx : Cx P} {args : List SV} {m : Mem} {post : SV → Mem → Prop} (h : Runs cx fn args m post) (hrel : Rel e w0 W m w) (hn : cx.n0 ≤ m.length) :
    Calls P f (args.map (SV.den e)).toArray w fun r w' => ∃ v m' e', post v m' ∧ r = .returned (v.den e') ∧ Rel e' w0 W m' w' ∧ ∀ i, i < cx.n0 → e' i = e i := by
  unfold Runs at h
  split at h
  · rename_i c hle hb
    have hle := Nat.ble_iff.1 hle
    refine calls_of_wp hf hb (exec_sound (e0 := e) (w0 := w0) (W := W) hm cx c _ _ _ _ _ h ⟨e, hrel, relT0 hle, fun _ _ => rfl, hn⟩ ?_)
    intro ex S' a' w' h' hs'
    obtain ⟨e', hrel', ht', he', hn'⟩ := hs'
    have key : (match retOf P S' fn.results.toList with | some v => post v S'.m | none => False) → a'.defers = [] ∧ ∃ v, (results fn a'.tmps).run P w' = .ok v w' ∧ ∃ v_1 m' e', post v_1 m' ∧ Ending.returned v = .returned (v_1.den e') ∧ Rel e' w0 W m' w' ∧ ∀ i, i < cx.n0 → e' i = e i := by
      intro hk
      split at hk
      · rename_i v hv
        exact ⟨ht'.defers, _, retOf_ok ht' hrel' hv, v, S'.m, e', hk, rfl, hrel', he'⟩
      · exact hk.elim
    cases ex with
    | normal => exact key h'
    | ret => exact key h'
    | _ => exact h'.elim
  · exact h.elim

/-- A function that is carried out where it is called, by its body. -/
theorem inl_sound (hm : P.follows .mixedOrders = true) {f : FuncId} {fn : Func} (hf : P.funcs[f]? = some fn) (cxf : List SV → Mem → Cx P) (hcx : ∀ args m, (cxf args m).n0 = m.length) (args : List SV) (m : Mem) (K : SV → Mem → Prop) (h : Runs (cxf args m) fn args m K)
    (e : Env) (w0 : World) (W : Nat → Prop) (w : World) (hrel : Rel e w0 W m w) : Calls P f (args.map (SV.den e)).toArray w fun r w' => ∃ v m', K v m' ∧ After e m.length w0 W v m' r w' :=
  (runs_sound hm hf h hrel (by rw [hcx]; exact Nat.le_refl _)).mono fun r w' ⟨v, m', e', h1, h2, h3, h4⟩ => ⟨v, m', h1, e', fun i hi => h4 i (by rw [hcx]; exact hi), h2, h3⟩

/-! ### Functions that leave known memory as it is -/

/-- claimed: the result r, by renaming ρ -/
def isRes (r : SV) (v : SV) : Prop :=
  match eqSV r v with
  | some l => allP l True
  | none => False

theorem isRes_den {r v : SV} (h : isRes r v) : r.den e = v.den e := by
  unfold isRes at h
  split at h
  · rename_i l hl
    exact eqSV_den hl (allP_iff.1 h).1
  · exact h.elim

theorem rel_nil (e : Env) (w : World) : Rel e w (fun _ => False) [] w :=
  ⟨Fr.refl _ _, fun i r hi => by simp at hi, fun i j ri rj a b _ hi => by simp at hi, fun i r a hi => by simp at hi⟩

/-- A function of numbers alone. -/
theorem pure_sound (hm : P.follows .mixedOrders = true) {f : FuncId} {fn : Func} (hf : P.funcs[f]? = some fn) {cx : Cx P} (hn0 : cx.n0 = 0) {args : List SV} {r : SV} (hargs : args.all (SV.ok 0) = true) (hr : r.ok 0 = true) (h : Runs cx fn args [] fun v _ => isRes r v)
    (e : Env) (w0 : World) (W : Nat → Prop) (w : World) {m : Mem} (hrel : Rel e w0 W m w) : Calls P f (args.map (SV.den e)).toArray w fun r' w' => r' = .returned (r.den e) ∧ Rel e w0 W m w' := by
  refine (runs_sound hm hf h (rel_nil e w) (by simp [hn0])).mono fun r' w' ⟨v, m', e', h1, h2, h3, _⟩ => ⟨?_, hrel.same h3.fr⟩
  rw [h2, ← isRes_den (e := e') h1]
  exact congrArg Ending.returned (SV.congr (fun i hi => by omega) hr)

end
end Go.Sx

/-
  Part 14: contracts of functions that write known memory, or make some.
-/
namespace Go.Sx
open Go.RowKit

def Reg.ren (ρ : List Nat) (r : Reg) : Reg := ⟨r.rw, r.con.ren ρ⟩

/-- callee's names: the first ones are the caller's by ρ, the others are new -/
def liftRen (ρ : List Nat) (n len : Nat) : List Nat := ρ ++ (List.range (len - ρ.length)).map (n + ·)

def setOne (σ : List Nat) (m : Mem) (i : Nat) : Option Reg → Mem
  | none => m.set i none
  | some ⟨true, c⟩ => m.set i (some ⟨true, c.ren σ⟩)
  | some ⟨false, _⟩ => m

def setAll (σ : List Nat) : List Nat → Mem → Mem → Mem
  | [], m, _ => m
  | _ :: _, m, [] => m
  | i :: ρ, m, r :: l => setAll σ ρ (setOne σ m i r) l

def newReg (σ : List Nat) : Option Reg → Option Reg
  | some ⟨true, c⟩ => some ⟨true, c.ren σ⟩
  | _ => none

/-- the caller's memory behind the call -/
def callMem (m : Mem) (ρ : List Nat) (mr : Mem) : Mem :=
  setAll (liftRen ρ m.length mr.length) ρ m mr ++ (mr.drop ρ.length).map (newReg (liftRen ρ m.length mr.length))

def liftV (m : Mem) (ρ : List Nat) (mr : Mem) (v : SV) : SV := v.ren (liftRen ρ m.length mr.length)

def Alt.lift (m : Mem) (ρ : List Nat) : Alt → Alt
  | .one v mr => .one (liftV m ρ mr v) (callMem m ρ mr)
  | .cond p v mr => .cond p (liftV m ρ mr v) (callMem m ρ mr)
  | .fam α p v mr => .fam α p (fun y => liftV m ρ (mr y) (v y)) (fun y => callMem m ρ (mr y))

/-- a region that may be written is not told as one that may not -/
def roB : Mem → Mem → Bool
  | a :: l, b :: r => (match a, b with | some x, some y => (y.rw || !x.rw) && roB l r | _, _ => roB l r)
  | _, _ => true

/-- what the body comes to is this way of ending -/
def altOne (m0 : Mem) (ρ : List Nat) (v : SV) (m : Mem) (v2 : SV) (m2 : Mem) : Prop :=
  match idB m0.length 0 ρ, Nat.ble m2.length ρ.length, nodupB ρ, Nat.ble m0.length m2.length && Mem.ok m2 && v2.ok m2.length && roB m0 m2, app2 (eqSV (v2.ren ρ) v) (subMem ρ m 0 m2) with
  | true, true, true, true, some l => allP l True
  | _, _, _, _, _ => False

def isAlt (m0 : Mem) (ρ : List Nat) (v : SV) (m : Mem) : Alt → Prop
  | .one v2 m2 => altOne m0 ρ v m v2 m2
  | .cond p v2 m2 => p ∧ altOne m0 ρ v m v2 m2
  | .fam _ p v2 m2 => ∃ y, p y ∧ altOne m0 ρ v m (v2 y) (m2 y)

def anyAlt (m0 : Mem) (ρ : List Nat) (v : SV) (m : Mem) : List Alt → Prop
  | [] => False
  | [a] => isAlt m0 ρ v m a
  | a :: l => isAlt m0 ρ v m a ∨ anyAlt m0 ρ v m l

theorem anyAlt_mem {m0 : Mem} {ρ : List Nat} {v : SV} {m : Mem} : ∀ {l : List Alt}, anyAlt m0 ρ v m l → ∃ a ∈ l, isAlt m0 ρ v m a
  | [a], h => ⟨a, List.mem_cons_self, h⟩
  | a :: b :: l, h => by
    rcases h with h | h
    · exact ⟨a, List.mem_cons_self, h⟩
    · obtain ⟨c, hc, h2⟩ := anyAlt_mem h
      exact ⟨c, List.mem_cons_of_mem _ hc, h2⟩

section
variable {P : Program} {e : Env} {w0 : World} {W : Nat → Prop} {m : Mem} {w : World}

/-- the callee's regions among the caller's -/
structure Fits (m : Mem) (ρ : List Nat) (m0 : Mem) : Prop where
  len : ρ.length = m0.length
  nodup : nodupB ρ = true
  lt : ∀ i, i < ρ.length → rn ρ i < m.length
  get : ∀ (i : Nat) (r : Reg), m0[i]? = some (some r) → ∃ y l, m[rn ρ i]? = some (some y) ∧ (r.rw = true → y.rw = true) ∧ subCon (r.con.ren ρ) y.con = some l ∧ Holds l

/-- the blocks that the callee may write -/
def WOf (e : Env) (m0 : Mem) (b : Nat) : Prop := ∃ i r a, m0[i]? = some (some r) ∧ r.rw = true ∧ r.con.some_ ∧ e i = some a ∧ a.block = b

theorem Rel.enter (h : Rel e w0 W m w) {ρ : List Nat} {m0 : Mem} (hf : Fits m ρ m0) : Rel (renE e ρ) w (WOf (renE e ρ) m0) m0 w := by
  have hl : ∀ i r, m0[i]? = some (some r) → i < ρ.length := fun i r hi => by rw [hf.len]; exact (List.getElem?_eq_some_iff.1 hi).1
  refine ⟨Fr.refl _ _, fun i r hi => ?_, ?_, fun i r a hi hrw hs ha => .inl ⟨i, r, a, hi, hrw, hs, ha, rfl⟩⟩
  · obtain ⟨y, l, h1, h2, h3, h4⟩ := hf.get i r hi
    have hR := h.reg _ _ h1
    obtain ⟨h5, h6⟩ := subCon_cell (e := e) h3 h4
    refine ⟨fun j v hv => ?_, fun es k hm => ?_⟩
    · rw [← Con.cell_ren] at hv
      obtain ⟨a, ha, hc, hfr⟩ := hR.cell j v (h5 j v hv)
      exact ⟨a, ha, hc, fun hr => hfr (h2 hr)⟩
    · exact hR.map es k (h6 es k (by rw [hm]; rfl))
  · intro i j ri rj a b hij hi hj hrw hsi hsj ha hb
    obtain ⟨yi, li, h1, h2, h3, h4⟩ := hf.get i ri hi
    obtain ⟨yj, lj, h5, h6, h7, h8⟩ := hf.get j rj hj
    exact h.sep (rn ρ i) (rn ρ j) yi yj a b (fun hh => hij (nodupB_inj hf.nodup i j (hl i ri hi) (hl j rj hj) hh)) h1 h5 (h2 hrw) (subCon_some h3 h4 (some_ren hsi)) (subCon_some h7 h8 (some_ren hsj)) ha hb

theorem setOne_len {σ : List Nat} {m : Mem} {i : Nat} {r : Option Reg} : (setOne σ m i r).length = m.length := by
  unfold setOne; split <;> simp
theorem setAll_len {σ : List Nat} : ∀ {ρ : List Nat} {m l : Mem}, (setAll σ ρ m l).length = m.length
  | [], _, _ => rfl
  | _ :: _, _, [] => rfl
  | i :: ρ, m, r :: l => by simp [setAll, setAll_len (ρ := ρ), setOne_len]

theorem setOne_other {σ : List Nat} {m : Mem} {i j : Nat} {r : Option Reg} (h : i ≠ j) : (setOne σ m i r)[j]? = m[j]? := by
  unfold setOne; split <;> simp [List.getElem?_set_ne h]

theorem setAll_get {σ : List Nat} : ∀ {ρ : List Nat} {m l : Mem}, nodupB ρ = true → (∀ i, i < ρ.length → rn ρ i < m.length) → ρ.length ≤ l.length →
    (∀ i, i < ρ.length → ∃ r, l[i]? = some r ∧ (setAll σ ρ m l)[rn ρ i]? = (setOne σ m (rn ρ i) r)[rn ρ i]?) ∧ (∀ j, (∀ i, i < ρ.length → rn ρ i ≠ j) → (setAll σ ρ m l)[j]? = m[j]?)
  | [], m, l, _, _, _ => ⟨fun i hi => (by simp at hi), fun j _ => rfl⟩
  | x :: ρ, m, [], _, _, hl => by simp at hl
  | x :: ρ, m, r :: l, hnd, hlt, hl => by
    have hsh : ∀ i, i < ρ.length → rn (x :: ρ) (i + 1) = rn ρ i := by
      intro i hi; simp [rn, hi]
    have hx0 : rn (x :: ρ) 0 = x := rfl
    have hxne : ∀ i, i < ρ.length → rn ρ i ≠ x := by
      intro i hi hh
      have := nodupB_inj hnd (i + 1) 0 (by simp; omega) (by simp) (by
        have h1 := hsh i hi
        simp only [rn] at h1 hh hx0
        rw [h1, hh]; rfl)
      omega
    have hnd' : nodupB ρ = true := by simp only [nodupB, Bool.and_eq_true] at hnd; exact hnd.2
    have hxl : x < m.length := hlt 0 (by simp)
    obtain ⟨h1, h2⟩ := setAll_get (σ := σ) (ρ := ρ) (m := setOne σ m x r) (l := l) hnd' (fun i hi => by
      rw [setOne_len, ← hsh i hi]; exact hlt (i + 1) (by simp; omega)) (by simpa using hl)
    refine ⟨fun i hi => ?_, fun j hj => ?_⟩
    · cases i with
      | zero =>
        refine ⟨r, rfl, ?_⟩
        rw [hx0]
        show (setAll σ ρ (setOne σ m x r) l)[x]? = _
        rw [h2 x hxne]
      | succ i =>
        have hi' : i < ρ.length := by simpa using hi
        rw [hsh i hi']
        obtain ⟨r', hr', h3⟩ := h1 i hi'
        refine ⟨r', hr', ?_⟩
        show (setAll σ ρ (setOne σ m x r) l)[rn ρ i]? = _
        rw [h3]
        have hne : x ≠ rn ρ i := fun hh => hxne i hi' hh.symm
        have hlt' : rn ρ i < m.length := by have := hlt (i + 1) (by simp; omega); rwa [hsh i hi'] at this
        cases r' with
        | none =>
          show ((setOne σ m x r).set (rn ρ i) none)[rn ρ i]? = (m.set (rn ρ i) none)[rn ρ i]?
          rw [List.getElem?_set_self (by rw [setOne_len]; exact hlt'), List.getElem?_set_self hlt']
        | some r' =>
          obtain ⟨rw', c'⟩ := r'
          cases rw' with
          | true =>
            show ((setOne σ m x r).set (rn ρ i) (some ⟨true, c'.ren σ⟩))[rn ρ i]? = (m.set (rn ρ i) (some ⟨true, c'.ren σ⟩))[rn ρ i]?
            rw [List.getElem?_set_self (by rw [setOne_len]; exact hlt'), List.getElem?_set_self hlt']
          | false => simp only [setOne]; exact setOne_other hne
    · show (setAll σ ρ (setOne σ m x r) l)[j]? = _
      rw [h2 j (fun i hi => by rw [← hsh i hi]; exact hj (i + 1) (by simp; omega)), setOne_other (by have := hj 0 (by simp); rwa [hx0] at this)]

theorem some_unren {σ : List Nat} {c : Con} (h : (c.ren σ).some_) : c.some_ := by
  cases c with
  | flat l =>
    intro h0
    subst h0
    exact h rfl
  | tab n cols => exact h
  | mp es k => exact h

/-- Behind the call: the caller's memory. -/
theorem Rel.leave (h : Rel e w0 W m w) (hok : Mem.ok m = true) {ρ : List Nat} {m0 mr : Mem} (hf : Fits m ρ m0) {e' : Env} {w' : World} (hr : Rel e' w (WOf (renE e ρ) m0) mr w') (hag : ∀ i, i < ρ.length → e' i = renE e ρ i) (hk : ρ.length ≤ mr.length) (hokr : Mem.ok mr = true)
    (hro : ∀ (q : Nat) (r0 : Reg) (c : Con), m0[q]? = some (some r0) → mr[q]? = some (some ⟨false, c⟩) → r0.rw = false) :
    ∃ e2 : Env, (∀ i, i < m.length → e2 i = e i) ∧ Rel e2 w0 W (callMem m ρ mr) w' ∧ ∀ v : SV, v.ok mr.length = true → (liftV m ρ mr v).den e2 = v.den e' := by
  let σ := liftRen ρ m.length mr.length
  let e2 : Env := fun i => if i < m.length then e i else e' (ρ.length + (i - m.length))
  have hσ : ∀ i, i < mr.length → renE e2 σ i = e' i := by
    intro i hi
    have hlen : σ.length = mr.length := by simp [σ, liftRen]; omega
    show (if rn σ i < m.length then e (rn σ i) else e' (ρ.length + (rn σ i - m.length))) = e' i
    rcases Nat.lt_or_ge i ρ.length with hlt | hge
    · have h1 : rn σ i = rn ρ i := by
        simp only [rn, σ, liftRen, List.getD_eq_getElem?_getD]
        rw [List.getElem?_append_left hlt]
      rw [h1, if_pos (hf.lt i hlt)]
      exact (hag i hlt).symm
    · have h1 : rn σ i = m.length + (i - ρ.length) := by
        simp only [rn, σ, liftRen, List.getD_eq_getElem?_getD]
        rw [List.getElem?_append_right hge, List.getElem?_map, List.getElem?_range (by omega)]
        rfl
      rw [h1, if_neg (by omega)]
      congr 1; omega
  have hagree : ∀ i, i < m.length → e2 i = e i := fun i hi => if_pos hi
  -- a block that the callee may have written is that of one of its regions
  have hWb : ∀ b, WOf (renE e ρ) m0 b → ∃ i y a, i < ρ.length ∧ m[rn ρ i]? = some (some y) ∧ y.rw = true ∧ y.con.some_ ∧ e (rn ρ i) = some a ∧ a.block = b := by
    rintro b ⟨i, r, a, hi, hrw, hs, ha, hb⟩
    obtain ⟨y, l, h1, h2, h3, h4⟩ := hf.get i r hi
    exact ⟨i, y, a, by rw [hf.len]; exact (List.getElem?_eq_some_iff.1 hi).1, h1, h2 hrw, subCon_some h3 h4 (some_ren hs), ha, hb⟩
  obtain ⟨hg1, hg2⟩ := setAll_get (σ := σ) (m := m) (l := mr) hf.nodup hf.lt hk
  -- which region stands behind a name
  have hlen : σ.length = mr.length := by simp [σ, liftRen]; omega
  have hsl : ∀ j, j < ρ.length → rn σ j = rn ρ j := by
    intro j hj
    simp only [rn, σ, liftRen, List.getD_eq_getElem?_getD]
    rw [List.getElem?_append_left hj]
  have hsr : ∀ j, ρ.length ≤ j → j < mr.length → rn σ j = m.length + (j - ρ.length) := by
    intro j hj hj2
    simp only [rn, σ, liftRen, List.getD_eq_getElem?_getD]
    rw [List.getElem?_append_right hj, List.getElem?_map, List.getElem?_range (by omega)]
    rfl
  have hcase : ∀ (i : Nat) (r : Reg), (callMem m ρ mr)[i]? = some (some r) →
      (∃ j c, mr[j]? = some (some ⟨true, c⟩) ∧ r = ⟨true, c.ren σ⟩ ∧ e2 i = e' j ∧ i = rn σ j) ∨ (i < m.length ∧ m[i]? = some (some r) ∧ ((∀ j, j < ρ.length → rn ρ j ≠ i) ∨ ∃ j c, j < ρ.length ∧ rn ρ j = i ∧ mr[j]? = some (some ⟨false, c⟩))) := by
    intro i r hi
    unfold callMem at hi
    rcases Nat.lt_or_ge i m.length with hlt | hge
    · rw [List.getElem?_append_left (by rw [setAll_len]; exact hlt)] at hi
      by_cases hex : ∃ j, j < ρ.length ∧ rn ρ j = i
      · obtain ⟨j, hj, hji⟩ := hex
        obtain ⟨q, hq, h3⟩ := hg1 j hj
        rw [← hji, h3] at hi
        have hlt' : rn ρ j < m.length := hf.lt j hj
        cases q with
        | none => simp [setOne, hlt'] at hi
        | some q =>
          obtain ⟨rw', c⟩ := q
          cases rw' with
          | true =>
            simp [setOne, hlt'] at hi
            refine .inl ⟨j, c, hq, hi.symm, ?_, by rw [hsl j hj, hji]⟩
            rw [hagree i hlt, hag j hj, ← hji]; rfl
          | false =>
            simp only [setOne] at hi
            exact .inr ⟨hlt, by rw [← hji]; exact hi, .inr ⟨j, c, hj, hji, hq⟩⟩
      · rw [hg2 i (fun j hj hji => hex ⟨j, hj, hji⟩)] at hi
        exact .inr ⟨hlt, hi, .inl fun j hj hji => hex ⟨j, hj, hji⟩⟩
    · rw [List.getElem?_append_right (by rw [setAll_len]; exact hge), setAll_len, List.getElem?_map, List.getElem?_drop] at hi
      cases hm : mr[ρ.length + (i - m.length)]? with
      | none => rw [hm] at hi; cases hi
      | some q =>
        rw [hm] at hi
        cases q with
        | none => cases hi
        | some q =>
          obtain ⟨rw', c⟩ := q
          cases rw' with
          | true =>
            cases hi
            have hjl := (List.getElem?_eq_some_iff.1 hm).1
            refine .inl ⟨_, c, hm, rfl, if_neg (by omega), ?_⟩
            rw [hsr _ (by omega) hjl]; omega
          | false => cases hi
  have hren : ∀ (r' : Reg) (j : Nat) (v : Value), (r'.ren σ).con.cell e2 j = some v → r'.con.ok mr.length = true → r'.con.cell e' j = some v := by
    intro r' j v hv hok'
    simp only [Reg.ren] at hv
    rw [Con.cell_ren, Con.congr (e := e') (e' := renE e2 σ) hσ hok'] at hv
    exact hv
  have hro' : ∀ i, ((∀ j, j < ρ.length → rn ρ j ≠ i) ∨ ∃ j c, j < ρ.length ∧ rn ρ j = i ∧ mr[j]? = some (some ⟨false, c⟩)) → ∀ q, q < ρ.length → rn ρ q = i → ∀ r0, m0[q]? = some (some r0) → r0.rw = false := by
    intro i hne q hq hqi r0 h0
    rcases hne with h1 | ⟨j, c, hj, hji, hm⟩
    · exact absurd hqi (h1 q hq)
    · have : q = j := nodupB_inj hf.nodup q j hq hj (hqi.trans hji.symm)
      subst this
      exact hro q r0 c h0 hm
  -- what the callee may have written is the caller's to write, and none of its other regions
  have hout : ∀ (a : Addr), (WOf (renE e ρ) m0 a.block ∨ w.heap.size ≤ a.block) → ∀ (j : Nat) (r : Reg) (b : Addr), m[j]? = some (some r) → r.con.some_ → e j = some b →
      ((∀ q, q < ρ.length → rn ρ q ≠ j) ∨ r.rw = false ∨ ∃ q c, q < ρ.length ∧ rn ρ q = j ∧ mr[q]? = some (some ⟨false, c⟩)) → (∀ q, q < ρ.length → rn ρ q = j → ∀ r0, m0[q]? = some (some r0) → r0.rw = false) → a.block ≠ b.block := by
    intro a ha j r b hj hs hb _ hro heq
    rcases ha with ⟨i, r0, a', hi, hrw, hs0, ha', hab⟩ | hge
    · obtain ⟨y, l, h1, h2, h3, h4⟩ := hf.get i r0 hi
      have hil : i < ρ.length := by rw [hf.len]; exact (List.getElem?_eq_some_iff.1 hi).1
      by_cases hij : rn ρ i = j
      · have := hro i hil hij r0 hi
        rw [this] at hrw; cases hrw
      · exact h.sep (rn ρ i) j y r a' b hij h1 hj (h2 hrw) (subCon_some h3 h4 (some_ren hs0)) hs ha' hb (hab.trans heq)
    · have hR := h.reg j r hj
      rw [hb] at hR
      have := hR.lt hs
      omega
  refine ⟨e2, hagree, ⟨⟨hr.fr.os.trans h.fr.os, hr.fr.tape.trans h.fr.tape, hr.fr.output.trans h.fr.output, Nat.le_trans h.fr.size hr.fr.size, fun b hb hw => ?_⟩, ?_, ?_, ?_⟩, fun v hv => ?_⟩
  · rw [hr.fr.block b (by have := h.fr.size; omega) (fun hW => ?_)]
    · exact h.fr.block b hb hw
    · obtain ⟨i, y, a, _, h1, h2, h3, h4, h5⟩ := hWb b hW
      rcases h.wr _ y a h1 h2 h3 h4 with h6 | h6
      · rw [h5] at h6; exact hw h6
      · omega
  · intro i r hi
    rcases hcase i r hi with ⟨j, c, hm, rfl, he, _⟩ | ⟨hlt, hm, hne⟩
    · have hR := hr.reg j _ hm
      rw [he]
      refine ⟨fun q v hv => ?_, fun es k hk => ?_⟩
      · exact hR.cell q v (hren ⟨true, c⟩ q v hv (Mem.ok_get hokr hm))
      · cases c with
        | mp es' k' => cases hk; exact hR.map _ _ rfl
        | flat l => cases hk
        | tab n cols => cases hk
    · rw [hagree i hlt]
      have hR := h.reg i r hm
      have h1 : RegOK e w' (e i) r := hR.keep fun a ha hs => by
        have hb := h.reg i r hm
        rw [ha] at hb
        refine hr.fr.block _ (hb.lt hs) fun hW => ?_
        exact hout a (.inl hW) i r a hm hs ha (by rcases hne with h2 | h2; exact .inl h2; exact .inr (.inr h2)) (hro' i hne) rfl
      refine ⟨fun j v hv => ?_, h1.map⟩
      rw [Con.congr hagree (Mem.ok_get hok hm)] at hv
      exact h1.cell j v hv
  · intro i j ri rj a b hij hi hj hrw hsi hsj ha hb
    rcases hcase i ri hi with ⟨j1, c1, hm1, rfl, he1, hn1⟩ | ⟨hlt1, hm1, hne1⟩ <;> rcases hcase j rj hj with ⟨j2, c2, hm2, rfl, he2, hn2⟩ | ⟨hlt2, hm2, hne2⟩
    · rw [he1] at ha
      rw [he2] at hb
      refine hr.sep j1 j2 _ _ a b (fun hh => hij (by rw [hn1, hn2, hh])) hm1 hm2 rfl (some_unren hsi) (some_unren hsj) ha hb
    · rw [he1] at ha
      rw [hagree j hlt2] at hb
      exact hout a (hr.wr j1 _ a hm1 rfl (some_unren hsi) ha) j rj b hm2 hsj hb (by rcases hne2 with h2 | h2; exact .inl h2; exact .inr (.inr h2)) (hro' j hne2)
    · rw [he2] at hb
      rw [hagree i hlt1] at ha
      exact (hout b (hr.wr j2 _ b hm2 rfl (some_unren hsj) hb) i ri a hm1 hsi ha (by rcases hne1 with h2 | h2; exact .inl h2; exact .inr (.inr h2)) (hro' i hne1)).symm
    · rw [hagree i hlt1] at ha
      rw [hagree j hlt2] at hb
      exact h.sep i j ri rj a b hij hm1 hm2 hrw hsi hsj ha hb
  · intro i r a hi hrw hs ha
    rcases hcase i r hi with ⟨j1, c1, hm1, rfl, he1, hn1⟩ | ⟨hlt1, hm1, hne1⟩
    · rw [he1] at ha
      rcases hr.wr j1 _ a hm1 rfl (some_unren hs) ha with hW | hge
      · obtain ⟨i', y, a', _, h1, h2, h3, h4, h5⟩ := hWb _ hW
        rw [← h5]
        exact h.wr _ y a' h1 h2 h3 h4
      · exact .inr (Nat.le_trans h.fr.size hge)
    · rw [hagree i hlt1] at ha
      exact h.wr i r a hm1 hrw hs ha
  · simp only [liftV]
    rw [SV.den_ren]
    exact SV.congr hσ hv

theorem roB_ok : ∀ {m0 m2 : Mem}, roB m0 m2 = true → ∀ (q : Nat) (r0 : Reg) (c : Con), m0[q]? = some (some r0) → m2[q]? = some (some ⟨false, c⟩) → r0.rw = false
  | [], _, _, q, r0, c, h, _ => by simp at h
  | _ :: _, [], _, q, r0, c, _, h => by simp at h
  | a :: l, b :: r, hb, q, r0, c, h1, h2 => by
    simp only [roB] at hb
    cases q with
    | zero =>
      simp at h1 h2
      subst h1; subst h2
      simp only [Bool.false_or, Bool.and_eq_true] at hb
      simpa using hb.1
    | succ q =>
      have hb' : roB l r = true := by
        split at hb
        · simp only [Bool.and_eq_true] at hb; exact hb.2
        · exact hb
      exact roB_ok hb' q r0 c (by simpa using h1) (by simpa using h2)

theorem altOne_after {m0 : Mem} {ρ' : List Nat} {v : SV} {m' : Mem} {v2 : SV} {m2 : Mem} (ha : altOne m0 ρ' v m' v2 m2) (h : Rel e w0 W m w) (hok : Mem.ok m = true) {ρ : List Nat} (hf : Fits m ρ m0) {e' : Env} {w' : World}
    (hr : Rel e' w (WOf (renE e ρ) m0) m' w') (hag : ∀ i, i < m0.length → e' i = renE e ρ i) {r : Ending} (hre : r = .returned (v.den e')) : After e m.length w0 W (liftV m ρ m2 v2) (callMem m ρ m2) r w' := by
  unfold altOne at ha
  split at ha
  · rename_i l h1 h2 h3 h4 h5
    have h2 := Nat.ble_iff.1 h2
    simp only [Bool.and_eq_true] at h4
    obtain ⟨⟨⟨h6, h7⟩, h8⟩, h9⟩ := h4
    have h6 := Nat.ble_iff.1 h6
    obtain ⟨x, y, h10, h11, rfl⟩ := app2_some h5
    obtain ⟨h12, h13⟩ := holds_app (allP_iff.1 ha).1
    have hr2 := hr.sub h11 h13 h2 h3
    obtain ⟨e2, h14, h15, h16⟩ := h.leave hok hf hr2 (fun i hi => by
      rw [hf.len] at hi
      have := idB_ok h1 i hi
      rw [Nat.zero_add] at this
      show e' (rn ρ' i) = _
      rw [show rn ρ' i = i by simp only [rn, List.getD, this, Option.getD_some]]
      exact hag i hi) (by rw [hf.len]; exact h6) h7 (roB_ok h9)
    refine ⟨e2, h14, ?_, h15⟩
    rw [hre, h16 v2 h8, ← SV.den_ren, eqSV_den h10 h12]
  · exact ha.elim

/-- A contract out of a function's body. -/
theorem eff_sound (hm : P.follows .mixedOrders = true) {f : FuncId} {fn : Func} (hfn : P.funcs[f]? = some fn) {cx : Cx P} {args0 : List SV} {m0 : Mem} (hn0 : cx.n0 = m0.length) {al : List Alt} {ren : SV → Mem → List Nat}
    (h : Runs cx fn args0 m0 fun v m' => anyAlt m0 (ren v m') v m' al) {args : List SV} {ρ : List Nat} (hargs : args = args0.map (SV.ren ρ)) (hf : Fits m ρ m0) (hok : Mem.ok m = true)
    (e : Env) (w0 : World) (W : Nat → Prop) (w : World) (hrel : Rel e w0 W m w) : Calls P f (args.map (SV.den e)).toArray w fun r w' => ∃ a ∈ al.map (Alt.lift m ρ), a.Says e m.length w0 W r w' := by
  have ha : args.map (SV.den e) = args0.map (SV.den (renE e ρ)) := by
    rw [hargs, List.map_map]
    exact List.map_congr_left fun x _ => SV.den_ren e ρ x
  rw [ha]
  refine (runs_sound hm hfn h (hrel.enter hf) (by omega)).mono fun r w' ⟨v, m', e', h1, h2, h3, h4⟩ => ?_
  obtain ⟨a, hal, hia⟩ := anyAlt_mem h1
  refine ⟨a.lift m ρ, List.mem_map_of_mem hal, ?_⟩
  have hag : ∀ i, i < m0.length → e' i = renE e ρ i := fun i hi => h4 i (by omega)
  cases a with
  | one v2 m2 => exact altOne_after hia hrel hok hf h3 hag h2
  | cond p v2 m2 => exact ⟨hia.1, altOne_after hia.2 hrel hok hf h3 hag h2⟩
  | fam α p v2 m2 =>
    obtain ⟨y, h5, h6⟩ := hia
    exact ⟨y, h5, altOne_after h6 hrel hok hf h3 hag h2⟩

/-- A function that reads regions alone. -/
theorem read_sound (hm : P.follows .mixedOrders = true) {f : FuncId} {fn : Func} (hfn : P.funcs[f]? = some fn) {cx : Cx P} {args0 : List SV} {m0 : Mem} (hn0 : cx.n0 ≤ m0.length) (hro : ∀ (i : Nat) (r : Reg), m0[i]? = some (some r) → r.rw = false) {v0 : SV} (hv0 : v0.ok 0 = true)
    (h : Runs cx fn args0 m0 fun v _ => isRes v0 v) {args : List SV} {ρ : List Nat} (hargs : args = args0.map (SV.ren ρ)) (hf : Fits m ρ m0)
    (e : Env) (w0 : World) (W : Nat → Prop) (w : World) (hrel : Rel e w0 W m w) : Calls P f (args.map (SV.den e)).toArray w fun r w' => r = .returned (v0.den e) ∧ Rel e w0 W m w' := by
  have ha : args.map (SV.den e) = args0.map (SV.den (renE e ρ)) := by
    rw [hargs, List.map_map]
    exact List.map_congr_left fun x _ => SV.den_ren e ρ x
  rw [ha]
  refine (runs_sound hm hfn h (hrel.enter hf) hn0).mono fun r w' ⟨v, m', e', h1, h2, h3, h4⟩ => ⟨?_, hrel.same ?_⟩
  · rw [h2, ← isRes_den (e := e') h1]
    exact congrArg Ending.returned (SV.congr (fun i hi => by omega) hv0)
  · refine ⟨h3.fr.os, h3.fr.tape, h3.fr.output, h3.fr.size, fun b hb _ => h3.fr.block b hb ?_⟩
    rintro ⟨i, r, a, hi, hrw, _⟩
    rw [hro i r hi] at hrw; cases hrw

end
end Go.Sx

/-
  Part 15: a law's statement out of its body, carried out: arguments that come in, and what the row asks.
-/
namespace Go.Sx
open Go.RowKit Go.WideShapes Go.ChangeShapes Go.Deep

/-- a number's kind; none: a bool -/
abbrev RK := Option IntKind
inductive Sh where
  | num (k : RK)
  | sl (row : List RK)

section
variable (P : Program)

def rowFields (f : TypeId → Option (List RK)) : List Field → Nat → Option (List RK)
  | [], _ => some []
  | x :: l, off => (match Nat.beq x.offset off, f x.type with
    | true, some s => (match Nat.beq (P.cellsOf x.type) s.length, rowFields f l (off + s.length) with | true, some r => some (s ++ r) | _, _ => none)
    | _, _ => none)
def rep {α : Type} : Nat → List α → List α
  | 0, _ => []
  | n + 1, l => l ++ rep n l
def rowOf : Nat → TypeId → Option (List RK)
  | 0, _ => none
  | d + 1, t => (match P.underlying t with
    | some (.int k) => some [some k]
    | some .bool => some [none]
    | some (.struct fs) => (match rowFields P (rowOf d) fs.toList 0 with | some l => (match Nat.beq (P.cellsOf t) l.length with | true => some l | false => none) | none => none)
    | some (.array n e) => (match rowOf d e with
      | some l => (match Nat.beq (P.cellsOf e) l.length, Nat.beq (P.cellsOf t) (n * l.length) with | true, true => some (rep n l) | _, _ => none)
      | none => none)
    | _ => none)
end

def NumIs (v : Value) : RK → Prop
  | some k => ∃ n, v = .int k n ∧ (Lit.int k n).wf = true
  | none => ∃ b, v = .bool b

theorem rep_len {α : Type} (n : Nat) (l : List α) : (rep n l).length = n * l.length := by
  induction n with
  | zero => simp [rep]
  | succ n ih => simp [rep, ih, Nat.add_mul, Nat.add_comm]
theorem rep_get {α : Type} {n : Nat} {l : List α} : ∀ {i j : Nat}, i < n → j < l.length → (rep n l)[i * l.length + j]? = l[j]? := by
  induction n with
  | zero => intro i j hi; omega
  | succ n ih =>
    intro i j hi hj
    simp only [rep]
    cases i with
    | zero => rw [Nat.zero_mul, Nat.zero_add, List.getElem?_append_left hj]
    | succ i =>
      have h1 : (i + 1) * l.length + j = l.length + (i * l.length + j) := by rw [Nat.add_mul]; omega
      rw [h1, List.getElem?_append_right (by omega), Nat.add_sub_cancel_left]
      exact ih (by omega) hj

section
variable {P : Program} {H : Type} {enc : TypeId × Value → H} {w : World} {base : Nat} {spare : Nat → Bool} {held : Bool}

/-- cells that read as a row -/
theorem row_open : ∀ (d : Nat) {t : TypeId} {ss : List RK}, rowOf P d t = some ss → ∀ {fuel : Nat} {cs : List Value} {x : DataW H × List MemPlace}, DataW.trod enc P w base spare held fuel t cs = some x →
    cs.length = ss.length ∧ ∀ (j : Nat) (k : RK), ss[j]? = some k → ∃ v, cs[j]? = some v ∧ NumIs v k
  | 0, t, ss, h, _, _, _, _ => by cases h
  | d + 1, t, ss, h, fuel, cs, x, hx => by
    simp only [rowOf] at h
    split at h
    · rename_i k hd
      cases h
      obtain ⟨n, rfl, _, hw⟩ := DataW.trod_int hd hx
      refine ⟨rfl, fun j k' hj => ?_⟩
      cases j with
      | zero => simp at hj; subst hj; exact ⟨_, rfl, n, rfl, hw⟩
      | succ j => simp at hj
    · rename_i hd
      cases h
      obtain ⟨b, rfl, _⟩ := DataW.trod_bool hd hx
      refine ⟨rfl, fun j k' hj => ?_⟩
      cases j with
      | zero => simp at hj; subst hj; exact ⟨_, rfl, b, rfl⟩
      | succ j => simp at hj
    · rename_i fs hd
      split at h
      · rename_i l hl
        split at h
        · rename_i hsz
          cases h
          have hsz := Nat.beq_iff.1 hsz
          obtain ⟨xs, n, _, _, hlen, hxl, hf⟩ := DataW.trod_struct hd hx
          refine ⟨hlen.trans hsz, ?_⟩
          have key : ∀ (fl : List Field) (off : Nat) (l : List RK), rowFields P (rowOf P d) fl off = some l → (∀ f ∈ fl, ∃ y, DataW.trod enc P w base spare held n f.type ((cs.drop f.offset).take (P.cellsOf f.type)) = some y) →
              ∀ (j : Nat) (k : RK), l[j]? = some k → ∃ v, cs[off + j]? = some v ∧ NumIs v k := by
            intro fl
            induction fl with
            | nil => intro off l hl _ j k hj; cases hl; simp at hj
            | cons f fl ih =>
              intro off l hl hfs j k hj
              simp only [rowFields] at hl
              split at hl
              · rename_i s ho hs
                split at hl
                · rename_i r hc hr
                  cases hl
                  have ho := Nat.beq_iff.1 ho
                  have hc := Nat.beq_iff.1 hc
                  obtain ⟨y, hy⟩ := hfs f List.mem_cons_self
                  obtain ⟨h1, h2⟩ := row_open d hs hy
                  rw [List.getElem?_append] at hj
                  by_cases hjs : j < s.length
                  · rw [if_pos hjs] at hj
                    obtain ⟨v, hv, hn⟩ := h2 j k hj
                    rw [List.getElem?_take, if_pos (by omega), List.getElem?_drop, ho] at hv
                    exact ⟨v, hv, hn⟩
                  · rw [if_neg hjs] at hj
                    obtain ⟨v, hv, hn⟩ := ih _ _ hr (fun g hg => hfs g (List.mem_cons_of_mem _ hg)) _ k hj
                    exact ⟨v, by rw [← hv]; congr 1; omega, hn⟩
                · cases hl
              · cases hl
          intro j k hj
          have := key fs.toList 0 _ hl (fun f hf' => by
            obtain ⟨i, hi, rfl⟩ := List.getElem_of_mem hf'
            have hi' : i < fs.size := by simpa using hi
            have h3 := hf i fs[i] (Array.getElem?_eq_getElem hi')
            exact ⟨xs[i]'(by omega), by rw [show fs.toList[i] = fs[i] by simp, h3]; exact List.getElem?_eq_getElem (by omega)⟩) j k hj
          rwa [Nat.zero_add] at this
        · cases h
      · cases h
    · rename_i n el hd
      split at h
      · rename_i l hl
        split at h
        · rename_i hc hs
          cases h
          have hc := Nat.beq_iff.1 hc
          have hs := Nat.beq_iff.1 hs
          obtain ⟨xs, m, _, _, hlen, hxl, hf⟩ := DataW.trod_array hd hx
          refine ⟨by rw [rep_len, hlen, hs], fun j k hj => ?_⟩
          have hjl : j < n * l.length := by rw [← rep_len]; exact (List.getElem?_eq_some_iff.1 hj).1
          have hpos : 0 < l.length := by
            rcases Nat.eq_zero_or_pos l.length with h0 | h0
            · rw [h0] at hjl; omega
            · exact h0
          have hm : j % l.length < l.length := Nat.mod_lt _ hpos
          have hd' : j / l.length < n := by
            rw [Nat.div_lt_iff_lt_mul hpos]; exact hjl
          have hjv : j = j / l.length * l.length + j % l.length := by rw [Nat.mul_comm]; exact (Nat.div_add_mod j l.length).symm
          rw [hjv, rep_get hd' hm] at hj
          have h3 := hf (j / l.length) hd'
          rw [List.getElem?_eq_getElem (show j / l.length < xs.length by omega)] at h3
          obtain ⟨h1, h2⟩ := row_open d hl h3
          obtain ⟨v, hv, hn⟩ := h2 _ k hj
          rw [List.getElem?_take, if_pos (by omega), List.getElem?_drop, hc, ← hjv] at hv
          exact ⟨v, hv, hn⟩
        · cases h
      · cases h
    · cases h

def intC (w : World) (A : Option Addr) (j : Nat) : Int :=
  match A with
  | some a => (match w.cell? (a.add j) with | some (.int _ n) => n | _ => 0)
  | none => 0
def boolC (w : World) (A : Option Addr) (j : Nat) : Bool :=
  match A with
  | some a => (match w.cell? (a.add j) with | some (.bool b) => b | _ => false)
  | none => false

def colC (w : World) (A : Option Addr) (st c : Nat) : RK → Col
  | some k => .int k fun r => intC w A (r * st + c)
  | none => .bool fun r => boolC w A (r * st + c)
def colsC (w : World) (A : Option Addr) (st : Nat) : Nat → List RK → List Col
  | _, [] => []
  | c, k :: l => colC w A st c k :: colsC w A st (c + 1) l

theorem colsC_len {A : Option Addr} {st : Nat} : ∀ {l : List RK} {c : Nat}, (colsC w A st c l).length = l.length
  | [], _ => rfl
  | _ :: l, c => by simp [colsC, colsC_len (l := l)]
theorem colsC_get {A : Option Addr} {st : Nat} : ∀ {l : List RK} {c j : Nat}, (colsC w A st c l)[j]? = (l[j]?).map (colC w A st (c + j))
  | [], _, _ => by simp [colsC]
  | k :: l, c, 0 => by simp [colsC]
  | k :: l, c, j + 1 => by
    simp only [colsC, List.getElem?_cons_succ]
    rw [colsC_get (l := l)]
    congr 2; omega

/-- A slice that came in: n rows, each of the kinds 'row'. -/
structure Slc (w : World) (v : Value) (row : List RK) (A : Option Addr) (n cap : Nat) : Prop where
  val : v = .slice A n cap
  le : n ≤ cap
  max : cap ≤ 9223372036854775807
  reg : ∀ e : Env, RegOK e w A ⟨false, .tab n (colsC w A row.length 0 row)⟩
  wf : ∀ (c : Nat) (k : IntKind), row[c]? = some (some k) → ∀ r, r < n → (Lit.int k (intC w A (r * row.length + c))).wf = true

theorem slice_open {t el : TypeId} {row : List RK} {d : Nat} (ht : P.underlying t = some (.slice el)) (hrow : rowOf P d el = some row) (hcl : P.cellsOf el = row.length) {v : Value} {r : Reach} {b0 : Nat} (hv : Value.okWide P w r b0 t v) {D : DataW H} {p : List MemPlace} (h : DataW.Trod enc P w base spare held t v D p) :
    ∃ A n cap, Slc w v row A n cap := by
  obtain ⟨A, n, cap, rfl⟩ := okWide_slice ht hv
  obtain ⟨fuel, hf⟩ := h
  rcases open_slice ht hf with ⟨h0, _⟩ | ⟨a, len, cap', m, n', D', Pl, h0, hb, hl, hm, hmm, _, hi⟩
  · have : A = none ∧ n = 0 ∧ cap = 0 := by simp [Value.cells] at h0; exact h0
    obtain ⟨rfl, rfl, rfl⟩ := this
    refine ⟨none, 0, 0, rfl, Nat.le_refl _, by omega, fun e => ⟨fun j v hv => ?_, fun es k hk => by cases hk⟩, fun c k _ r hr => by omega⟩
    simp [Con.cell] at hv
  · have : A = some a ∧ n = len ∧ cap = cap' := by simp [Value.cells] at h0; exact h0
    obtain ⟨rfl, rfl, rfl⟩ := this
    have hlm : n ≤ m := by rw [hmm]; split <;> omega
    have hcell : ∀ r, r < n → ∀ (c : Nat) (k : RK), row[c]? = some k → ∃ u, w.cell? (a.add (r * row.length + c)) = some u ∧ NumIs u k := by
      intro r hr c k hk
      obtain ⟨cs', hc, ht'⟩ := hi r (by omega)
      obtain ⟨_, hcl', hat⟩ := World.cells?_some hc
      obtain ⟨h1, h2⟩ := row_open d hrow ht'
      obtain ⟨u, hu, hn⟩ := h2 c k hk
      have hcr : c < row.length := (List.getElem?_eq_some_iff.1 hk).1
      have h3 := hat c (by omega)
      rw [add_add, hcl, hu] at h3
      exact ⟨u, h3, hn⟩
    refine ⟨some a, n, cap, rfl, hl, by unfold maxLen at hm; omega, fun e => ⟨fun j v hv => ?_, fun es k hk => by cases hk⟩, fun c k hk r hr => ?_⟩
    · simp only [Con.cell, colsC_len] at hv
      split at hv
      · rename_i hlt
        rw [colsC_get, Nat.zero_add] at hv
        cases hk : row[j % row.length]? with
        | none => rw [hk] at hv; cases hv
        | some k =>
          rw [hk] at hv
          cases hv
          obtain ⟨u, hu, hn⟩ := hcell _ hlt _ k hk
          have hj : j / row.length * row.length + j % row.length = j := by rw [Nat.mul_comm]; exact Nat.div_add_mod j row.length
          refine ⟨a, rfl, ?_, fun h => by cases h⟩
          rw [← hj, hu, hj]
          congr 1
          cases k with
          | some k =>
            obtain ⟨z, rfl, _⟩ := hn
            simp only [colC, Col.at_, intC, hu]
          | none =>
            obtain ⟨z, rfl⟩ := hn
            simp only [colC, Col.at_, boolC, hu]
      · cases hv
    · obtain ⟨u, hu, z, rfl, hw⟩ := hcell r hr c (some k) hk
      simp only [intC, hu]; exact hw

/-- A struct, or an array, of numbers and bools by value. -/
theorem agg_open {t : TypeId} {row : List RK} {d : Nat} {v : Value} (hrow : rowOf P d t = some row) (hagg : (match P.underlying t with | some (.struct _) | some (.array _ _) => true | _ => false) = true) {r : Reach} {b0 : Nat} (hv : Value.okWide P w r b0 t v)
    {D : DataW H} {p : List MemPlace} (h : DataW.Trod enc P w base spare held t v D p) : ∃ cs : List Value, v = .agg cs.toArray ∧ cs.length = row.length ∧ ∀ (j : Nat) (k : RK), row[j]? = some k → ∃ u, cs[j]? = some u ∧ NumIs u k := by
  have hv' : ∃ cs : Array Value, v = .agg cs := by
    split at hagg
    · rename_i fs hd
      obtain ⟨cs, h1, _⟩ := okWide_struct hd hv
      exact ⟨cs, h1⟩
    · rename_i n el hd
      simp only [Value.okWide, hd] at hv
      obtain ⟨cs, h1, _⟩ := hv
      exact ⟨cs, h1⟩
    · cases hagg
  obtain ⟨cs, rfl⟩ := hv'
  obtain ⟨fuel, hf⟩ := h
  obtain ⟨h1, h2⟩ := row_open d hrow hf
  exact ⟨cs.toList, by simp, h1, h2⟩

def ListIs : List Value → List RK → Prop
  | [], [] => True
  | v :: vs, k :: ks => NumIs v k ∧ ListIs vs ks
  | _, _ => False
theorem listIs_of : ∀ {cs : List Value} {ks : List RK}, cs.length = ks.length → (∀ (j : Nat) (k : RK), ks[j]? = some k → ∃ u, cs[j]? = some u ∧ NumIs u k) → ListIs cs ks
  | [], [], _, _ => trivial
  | v :: vs, k :: ks, hl, h => by
    refine ⟨?_, listIs_of (by simpa using hl) fun j k' hj => ?_⟩
    · obtain ⟨u, hu, hn⟩ := h 0 k rfl
      simp at hu; subst hu; exact hn
    · obtain ⟨u, hu, hn⟩ := h (j + 1) k' (by simpa using hj)
      exact ⟨u, by simpa using hu, hn⟩
  | [], _ :: _, hl, _ | _ :: _, [], hl, _ => by simp at hl
theorem listIs_cons {cs : List Value} {k : RK} {ks : List RK} (h : ListIs cs (k :: ks)) : ∃ v vs, cs = v :: vs ∧ NumIs v k ∧ ListIs vs ks := by
  cases cs with
  | nil => exact h.elim
  | cons v vs => exact ⟨v, vs, rfl, h⟩
theorem listIs_nil {cs : List Value} (h : ListIs cs []) : cs = [] := by
  cases cs with
  | nil => rfl
  | cons v vs => exact h.elim

/-- Regions that came in, all for reading. -/
theorem rel_ro {e : Env} {m : Mem} (h : ∀ (i : Nat) (r : Reg), m[i]? = some (some r) → r.rw = false ∧ RegOK e w (e i) r) : Rel e w (fun _ => False) m w :=
  ⟨Fr.refl _ _, fun i r hi => (h i r hi).2, fun i j ri rj a b _ hi _ hrw => (by rw [(h i ri hi).1] at hrw; cases hrw), fun i r a hi hrw => (by rw [(h i r hi).1] at hrw; cases hrw)⟩

/-- the answer of a law -/
def yes (v : SV) (_ : Mem) : Prop := isRes (.one (.a .tt)) v

theorem law_calls (hm : P.follows .mixedOrders = true) {f : FuncId} {fn : Func} (hf : P.funcs[f]? = some fn) {cx : Cx P} {args : List SV} {m : Mem} (h : Runs cx fn args m yes) {e : Env} (hrel : Rel e w (fun _ => False) m w) (hn : cx.n0 ≤ m.length) {vs : Array Value} (hvs : vs = (args.map (SV.den e)).toArray) :
    Calls P f vs w fun r w' => r = .returned (.bool true) ∧ Below w.heap.size w w' := by
  rw [hvs]
  refine (runs_sound hm hf h hrel hn).mono fun r w' ⟨v, m', e', h1, h2, h3, _⟩ => ⟨?_, ?_⟩
  · rw [h2, ← isRes_den (e := e') h1]; rfl
  · exact ⟨h3.fr.os, h3.fr.tape, h3.fr.output, h3.fr.size, fun k hk => h3.fr.block k hk (fun h => h)⟩

end

section
variable {H : Type} {enc : TypeId × Value → H} {P : Program}

theorem trodAll_stays (hl : laidOutB P = true) {W W' : World} {sp : Nat → Bool} (hb : Below W.heap.size W W') : ∀ {ts : List TypeId} {vs : List Value} {ds : List (DataW H)} {ps : List MemPlace}, (∀ t ∈ ts, P.readableRec t = true ∧ t < P.types.size) →
    DataW.TrodAll enc P W 0 (fun _ => true) true ts vs ds ps → (∀ x ∈ ps, x.block < W.heap.size ∧ sp x.block = true) → DataW.TrodAll enc P W' 0 sp true ts vs ds ps
  | [], vs, ds, ps, _, h, _ => by
    obtain ⟨rfl, rfl, rfl⟩ := trodAll_nil h
    exact trodAll_mk0
  | t :: ts, vs, ds, ps, ht, h, hx => by
    obtain ⟨v, vs', d, ds', p, q, rfl, rfl, rfl, h1, h2⟩ := trodAll_cons h
    obtain ⟨hr, hrow⟩ := ht t List.mem_cons_self
    refine trodAll_cons_mk ?_ (trodAll_stays hl hb (fun t' ht' => ht t' (List.mem_cons_of_mem _ ht')) h2 fun x hxq => hx x (List.mem_append.2 (.inr hxq)))
    exact WideElems.Trod_stays hl hr hrow h1 (fun x hxp => hb.same (hx x (List.mem_append.2 (.inl hxp))).1) (fun x hxp => (hx x (List.mem_append.2 (.inl hxp))).2)

/-- The row's last step: behind the call all that was there is as it was. -/
theorem law_post {f : Func} {s : ChangeSpec} {apart : Bool} {W W' : World} {args : Array Value} {ds gs : List (DataW H)} {before : List MemPlace} {tb : TypeId} (hW : DataW.Whole enc P f.params.toList s.vars apart W args.toList ds gs before) (hvars : s.vars = [])
    (hs : s.fn H (ds ++ gs) = { results := [.lit (.bool true)], args := ds }) (hl : laidOutB P = true) (hpar : ∀ t ∈ f.params.toList, P.readableRec t = true ∧ t < P.types.size) (hres : f.resultTypes = #[tb]) (htb : P.underlying tb = some .bool) (hb : Below W.heap.size W W') :
    s.post enc P f apart true false false W args (.bool true) W' := by
  have hlt : ∀ p ∈ before, p.block < W.heap.size := fun p hp => hW.lt p hp
  have hW' := hW
  obtain ⟨p, q, hA, hV, rfl, hz, hn⟩ := hW
  rw [hvars] at hV
  obtain ⟨rfl, rfl⟩ := trodVars_none hV
  have hargs : ∀ sp : Nat → Bool, (∀ x ∈ p ++ [], sp x.block = true) → DataW.TrodAll enc P W' 0 sp true f.params.toList args.toList ds p := fun sp hsp =>
    trodAll_stays hl hb hpar hA fun x hx => ⟨hlt x (by simpa using hx), hsp x (by simpa using hx)⟩
  have hold : ∀ x ∈ p ++ [], (fun b => decide (b < W.heap.size)) x.block = true := fun x hx => by simpa using hlt x hx
  refine ⟨ds, [], p ++ [], [], p, [], hW', ?_, ?_, ?_, World.keptBut_mono (fun x hx => ⟨hx, ?_⟩) (hb.frame (· ∈ p ++ [])), fun h => (by cases h)⟩
  · rw [hs, hres]
    exact trodAll_mk1 (shut_bool htb _)
  · rw [hs]
    exact hargs _ hold
  · rw [hvars, hs]; rfl
  · exact .inr (.inl (by simpa using hx))

end
end Go.Sx

/-
  Part 16: contracts made handy.
-/
namespace Go.Sx
open Go.RowKit

theorem lex_q {ops : Array Oper} (h : Region.lexB .any ops = true) : Lex ops none := h
theorem lex_t {ops : Array Oper} {k : Nat} (h : Region.lexTailB .any ops k = true) : Lex ops (some k) := h

/-- What is needed of a function to call it. -/
structure FnOf (P : Program) (f : FuncId) (fn : Func) : Prop where
  at_ : P.funcs[f]? = some fn
  body : fn.body.isNone = false
  name : (fn.name == "runtime.NumGoroutine") = false
  mixed : P.follows .mixedOrders = true

section
variable {P : Program} {f : FuncId} {fn : Func}

theorem FnOf.ent (h : FnOf P f fn) (args : Array Value) (w : World) : (callFunc f args).run P w = .ok (.enter f args) w := by
  unfold callFunc
  have h1 := h.name
  have h2 := h.body
  simp only [Sem.run_bind, run_program, Result.andThen_ok, h.at_]
  rw [h1, h2]
  rfl

def cx0 : Cx P := { ps := [], es := [], is := [], n0 := 0, loops := fun _ => none, cuts := fun _ => none }
def Cx.at_ (cx : Cx P) (n : Nat) : Cx P := { cx with n0 := n }

/-- carried out where it is called -/
def inl (h : FnOf P f fn) (cx : Cx P) : ISpec P where
  f := f
  run := fun args m K => Runs (cx.at_ m.length) fn args m K
  ent := h.ent
  sound := fun args m K hr => inl_sound h.mixed h.at_ (fun _ m => cx.at_ m.length) (fun _ _ => rfl) args m K hr

/-- carried out where it is called, its loops told by the arguments -/
def inlBy (h : FnOf P f fn) (cx : List SV → Mem → Cx P) : ISpec P where
  f := f
  run := fun args m K => Runs ((cx args m).at_ m.length) fn args m K
  ent := h.ent
  sound := fun args m K hr => inl_sound h.mixed h.at_ (fun args m => (cx args m).at_ m.length) (fun _ _ => rfl) args m K hr

/-- A function of numbers alone: 'inp' reads the arguments, 'arg' is how they look. -/
def pureSpec (h : FnOf P f fn) (cx : Cx P) (hn0 : cx.n0 = 0) (X : Type) (inp : List SV → Option X) (arg : X → List SV) (pre : X → Option Prop) (res : X → SV) (hinp : ∀ l x, inp l = some x → l = arg x) (hok : ∀ x, (arg x).all (SV.ok 0) = true) (hr : ∀ x, (res x).ok 0 = true)
    (hrun : ∀ x, obp (pre x) → Runs cx fn (arg x) [] fun v _ => isRes (res x) v) : PSpec P where
  f := f
  X := X
  inp := fun l _ => inp l
  pre := pre
  res := res
  sound := fun args m x hx hp e w0 W w hrel => .inl ⟨h.ent _ _, by
    obtain rfl := hinp _ _ hx
    exact pure_sound h.mixed h.at_ hn0 (hok x) (hr x) (hrun x hp) e w0 W w hrel⟩

/-- A function of numbers alone that the model itself answers for. -/
def extSpec (X : Type) (inp : List SV → Option X) (arg : X → List SV) (pre : X → Option Prop) (res : X → SV) (hinp : ∀ l x, inp l = some x → l = arg x)
    (hrun : ∀ x, obp (pre x) → ∀ (e : Env) (w : World), (callFunc f ((arg x).map (SV.den e)).toArray).run P w = .ok (.value ((res x).den e)) w) : PSpec P where
  f := f
  X := X
  inp := fun l _ => inp l
  pre := pre
  res := res
  sound := fun args m x hx hp e w0 W w hrel => .inr (by
    obtain rfl := hinp _ _ hx
    exact hrun x hp e w)

/-- reads n whole numbers -/
def ints : List IntKind → List SV → Option (List Int)
  | [], [] => some []
  | k :: ks, .one (.a (.v (.int k' n))) :: l => (match kindEq k k', ints ks l with | true, some r => some (n :: r) | _, _ => none)
  | _, _ => none

end
end Go.Sx

/-
  Part 17: whole numbers.
-/
namespace Go.Sx

theorem w64 {n : Int} (h : -9223372036854775808 ≤ n ∧ n ≤ 9223372036854775807) : IntKind.i64.wrap n = n := IntWalk.i64_in n h
theorem wu64 (n : Int) : IntKind.u64.wrap n = n % 18446744073709551616 := IntKind.wrap_u64 n

theorem and_mask (a : Int) (k : Nat) (hk : k ≤ 63) : bits .and .i64 a ((2 ^ k - 1 : Nat) : Int) = a % ((2 ^ k : Nat) : Int) := by
  have h1 : (2 : Nat) ^ k ≤ 2 ^ 63 := Nat.pow_le_pow_right (by decide) hk
  have h0 : 0 < (2 : Nat) ^ k := Nat.pow_pos (by decide)
  have hd : (2 : Nat) ^ k ∣ 2 ^ 64 := Nat.pow_dvd_pow 2 (by omega)
  have hb : (BitVec.ofInt 64 ((2 ^ k - 1 : Nat) : Int)).toNat = 2 ^ k - 1 := by
    rw [BitVec.toNat_ofInt]
    rw [Int.emod_eq_of_lt (by omega) (by have : ((2 ^ k - 1 : Nat) : Int) ≤ ((2 ^ 63 : Nat) : Int) := by exact_mod_cast (by omega : 2 ^ k - 1 ≤ 2 ^ 63)
                                         have h2 : ((2 ^ 63 : Nat) : Int) < ((2 ^ 64 : Nat) : Int) := by decide
                                         omega)]
    omega
  have ha : ((BitVec.ofInt 64 a &&& BitVec.ofInt 64 ((2 ^ k - 1 : Nat) : Int)).toNat : Int) = a % ((2 ^ k : Nat) : Int) := by
    rw [BitVec.toNat_and, hb, Nat.and_two_pow_sub_one_eq_mod, BitVec.toNat_ofInt]
    rw [Int.natCast_emod]
    have h3 : 0 ≤ a % ((2 ^ 64 : Nat) : Int) := Int.emod_nonneg _ (by decide)
    rw [Int.toNat_of_nonneg h3]
    exact Int.emod_emod_of_dvd a (Int.natCast_dvd_natCast.2 hd)
  show IntKind.i64.wrap ((BitVec.ofInt 64 a &&& BitVec.ofInt 64 ((2 ^ k - 1 : Nat) : Int)).toNat : Int) = _
  rw [ha]
  have h4 : 0 ≤ a % ((2 ^ k : Nat) : Int) := Int.emod_nonneg _ (by omega)
  have h5 : a % ((2 ^ k : Nat) : Int) < ((2 ^ k : Nat) : Int) := Int.emod_lt_of_pos _ (by omega)
  have h6 : ((2 ^ k : Nat) : Int) ≤ ((2 ^ 63 : Nat) : Int) := by exact_mod_cast h1
  have h7 : ((2 ^ 63 : Nat) : Int) = 9223372036854775808 := by decide
  exact w64 (by omega)

theorem u64_of {a : Int} (h : (Lit.int .u64 a).wf = true) : 0 ≤ a ∧ a < 18446744073709551616 := by
  have := (Lit.wf_int_iff _ _).1 h
  have h1 : IntKind.u64.min = 0 := rfl
  have h2 : IntKind.u64.max = 18446744073709551615 := rfl
  omega
theorem i64_of {a : Int} (h : (Lit.int .i64 a).wf = true) : -9223372036854775808 ≤ a ∧ a ≤ 9223372036854775807 := by
  have := (Lit.wf_int_iff _ _).1 h
  have h1 : IntKind.i64.min = -9223372036854775808 := rfl
  have h2 : IntKind.i64.max = 9223372036854775807 := rfl
  omega
theorem u32_of {a : Int} (h : (Lit.int .u32 a).wf = true) : 0 ≤ a ∧ a < 4294967296 := by
  have := (Lit.wf_int_iff _ _).1 h
  have h1 : IntKind.u32.min = 0 := rfl
  have h2 : IntKind.u32.max = 4294967295 := rfl
  omega
theorem u8_of {a : Int} (h : (Lit.int .u8 a).wf = true) : 0 ≤ a ∧ a < 256 := by
  have := (Lit.wf_int_iff _ _).1 h
  have h1 : IntKind.u8.min = 0 := rfl
  have h2 : IntKind.u8.max = 255 := rfl
  omega

/-- the invariant is met -/
theorem enter_mk {la : LA} {n0 : Nat} {S : St} {C : la.ι → Prop} (i : la.ι) (hi : la.inv i) (h : match subSt (la.ren S) n0 S (la.T i) with | some l => allP l (C i) | none => False) : enter la n0 S C := ⟨i, hi, h⟩

end Go.Sx
