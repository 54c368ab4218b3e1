/-
  A library of my own: functions of the program are carried out symbolically, and what is left to show is plain. Joined out of its parts by a program.
-/
import Derived.Test.YtlhlegjndembdaaSxR
import Derived.IntWalk
import Derived.DataShut
import Derived.Maps.Keyed
import Derived.Maps.RangeRun

/-
  Part 16: contracts made handy.
-/
namespace Go.Sx
open Go.RowKit

theorem lex_q {ops : Array Oper} (h : (noSel ops.toList && lexL ops ops.toList 0) = true) : Lex ops none := lex_quick h
theorem lex_h {ops : Array Oper} {l : Sched} (h : (Region.noSelect ops && heldB ops ops.size l (Array.replicate ops.size false)) = true) : HeldOK ops l := h
theorem lex_t {ops : Array Oper} {k : Nat} (h : Region.lexTailB .any ops k = true) : Lex ops (some k) := h

/-- What is needed of a function to call it. -/
structure FnOf (P : Program) (f : FuncId) (fn : Func) : Prop where
  at_ : P.funcs[f]? = some fn
  body : fn.body.isNone = false
  name : (fn.name == "runtime.NumGoroutine") = false
  mixed : P.follows .mixedOrders = true

section
variable {P : Program} {f : FuncId} {fn : Func}

theorem FnOf.ent (h : FnOf P f fn) (args : Array Value) (w : World) : (callFunc f args).run P w = .ok (.enter f args) w := by
  unfold callFunc
  have h1 := h.name
  have h2 := h.body
  simp only [Sem.run_bind, run_program, Result.andThen_ok, h.at_]
  rw [h1, h2]
  rfl

def cx0 : Cx P := { ps := [], es := [], is := [], n0 := 0, loops := fun _ => none, cuts := fun _ => none }
def Cx.at_ (cx : Cx P) (n : Nat) : Cx P := { cx with n0 := n }

/-- carried out where it is called -/
def inl (h : FnOf P f fn) (cx : Cx P) : ISpec P where
  f := f
  run := fun args m K => Runs (cx.at_ m.length) fn args m K
  ent := h.ent
  sound := fun args m K hr => inl_sound h.mixed h.at_ (fun _ m => cx.at_ m.length) (fun _ _ => rfl) args m K hr

/-- carried out where it is called, its loops told by the arguments -/
def inlBy (h : FnOf P f fn) (cx : List SV → Mem → Cx P) : ISpec P where
  f := f
  run := fun args m K => Runs ((cx args m).at_ m.length) fn args m K
  ent := h.ent
  sound := fun args m K hr => inl_sound h.mixed h.at_ (fun args m => (cx args m).at_ m.length) (fun _ _ => rfl) args m K hr

/-- A function of numbers alone: 'inp' reads the arguments, 'arg' is how they look. -/
def pureSpec (h : FnOf P f fn) (cx : Cx P) (hn0 : cx.n0 = 0) (X : Type) (inp : List SV → Option X) (arg : X → List SV) (pre : X → Option Prop) (res : X → SV) (hinp : ∀ l x, inp l = some x → l = arg x) (hok : ∀ x, (arg x).all (SV.ok 0) = true) (hr : ∀ x, (res x).ok 0 = true)
    (hrun : ∀ x, obp (pre x) → Runs cx fn (arg x) [] fun v _ => isRes (res x) v) : PSpec P where
  f := f
  X := X
  inp := fun l _ => inp l
  pre := pre
  res := res
  sound := fun args m x hx hp e w0 W w hrel => .inl ⟨h.ent _ _, by
    obtain rfl := hinp _ _ hx
    exact pure_sound h.mixed h.at_ hn0 (hok x) (hr x) (hrun x hp) e w0 W w hrel⟩

/-- A function of numbers alone that the model itself answers for. -/
def extSpec (X : Type) (inp : List SV → Option X) (arg : X → List SV) (pre : X → Option Prop) (res : X → SV) (hinp : ∀ l x, inp l = some x → l = arg x)
    (hrun : ∀ x, obp (pre x) → ∀ (e : Env) (w : World), (callFunc f ((arg x).map (SV.den e)).toArray).run P w = .ok (.value ((res x).den e)) w) : PSpec P where
  f := f
  X := X
  inp := fun l _ => inp l
  pre := pre
  res := res
  sound := fun args m x hx hp e w0 W w hrel => .inr (by
    obtain rfl := hinp _ _ hx
    exact hrun x hp e w)

/-- reads n whole numbers -/
def ints : List IntKind → List SV → Option (List Int)
  | [], [] => some []
  | k :: ks, .one (.a (.v (.int k' n))) :: l => (match kindEq k k', ints ks l with | true, some r => some (n :: r) | _, _ => none)
  | _, _ => none

theorem holds_nil : Holds [] := fun p hp => absurd hp (by simp)
theorem holds_one {p : Prop} (h : p) : Holds [p] := fun q hq => by rw [List.mem_singleton.1 hq]; exact h
theorem holds_two {l r : List Prop} (hl : Holds l) (hr : Holds r) : Holds (l ++ r) := fun p hp => (List.mem_append.1 hp).elim (hl p) (hr p)
theorem eqSA_int (k : IntKind) (n : Int) : ∃ l, eqSA (.v (.int k n)) (.v (.int k n)) = some l ∧ Holds l := by
  have : kindEq k k = true := by cases k <;> rfl
  exact ⟨[n = n], by simp [eqSA, this], holds_one rfl⟩
theorem eqSA_bool {x : SA} {b : Bool} (h : boolOf x = some b) : ∃ l, eqSA (.v (.bool b)) x = some l ∧ Holds l := by
  unfold boolOf at h
  split at h <;> cases h <;> exact ⟨_, rfl, holds_one rfl⟩
theorem pre_nil (l : List SA) : ∃ r, preSAs [] l = some r ∧ Holds r := ⟨[], rfl, holds_nil⟩
theorem pre_cons {x y : SA} {xs ys : List SA} (h1 : ∃ l, eqSA x y = some l ∧ Holds l) (h2 : ∃ l, preSAs xs ys = some l ∧ Holds l) : ∃ l, preSAs (x :: xs) (y :: ys) = some l ∧ Holds l := by
  obtain ⟨l, h1, h3⟩ := h1
  obtain ⟨r, h2, h4⟩ := h2
  exact ⟨l ++ r, by simp [preSAs, h1, h2, app2], holds_two h3 h4⟩

/-- A method on one object of known cells that writes it, and no other memory, and answers numbers. 'rd' reads the cells and the other arguments. -/
def objSpec (h : FnOf P f fn) (X : Type) (cx : X → Cx P) (hn0 : ∀ x, (cx x).n0 = 1) (rd : List SA → List SV → Option X) (cells : X → List SA) (args : X → List SV) (pre : X → Option Prop) (val : X → SV) (post : X → List SA)
    (hrd : ∀ cs as x, rd cs as = some x → as = args x ∧ ∀ ρ, (args x).map (SV.ren ρ) = args x ∧ ∃ l, subCon ((Con.flat (cells x)).ren ρ) (.flat cs) = some l ∧ Holds l)
    (hrun : ∀ x, obp (pre x) → Runs (cx x) fn (.one (.a (.ptr 0 0)) :: args x) [some ⟨true, .flat (cells x)⟩] fun v m' => altOne [some ⟨true, .flat (cells x)⟩] [0] v m' (val x) [some ⟨true, .flat (post x)⟩]) : ESpec P where
  f := f
  X := Nat × Mem × X
  inp := fun as m => match as with
    | .one (.a (.ptr i 0)) :: as => (match m.reg i with
      | some ⟨true, .flat cs⟩ => (match rd cs as with | some x => some (i, m, x) | none => none)
      | _ => none)
    | _ => none
  pre := fun y => pre y.2.2
  res := fun (i, m, x) => [(Alt.one (val x) [some ⟨true, .flat (post x)⟩]).lift m [i]]
  ent := h.ent
  sound := fun as m y hy hp hok e w0 W w hrel => by
    split at hy
    · rename_i i as'
      split at hy
      · rename_i cs hreg
        split at hy
        · rename_i x hx
          cases hy
          obtain ⟨h1, h2⟩ := hrd _ _ _ hx
          obtain ⟨h3, l, h4, h5⟩ := h2 [i]
          subst h1
          have hi := reg_of hreg
          have hil : i < m.length := (List.getElem?_eq_some_iff.1 hi).1
          refine eff_sound h.mixed h.at_ (by simpa using hn0 x) (al := [.one (val x) [some ⟨true, .flat (post x)⟩]]) (ren := fun _ _ => [0]) (hrun x hp) (fun a ha => by rw [List.mem_singleton.1 ha]; rfl) (ρ := [i]) ?_ ⟨rfl, rfl, ?_, ?_, plainB_ok rfl⟩ hok e w0 W w hrel
          · rw [List.map_cons, h3]; rfl
          · intro j hj
            obtain rfl : j = 0 := by simp at hj; omega
            exact hil
          · intro j r hj
            cases j with
            | zero =>
              simp at hj
              subst hj
              exact ⟨_, l, hi, fun _ => rfl, h4, h5⟩
            | succ j => simp at hj
        · cases hy
      · cases hy
    · cases hy

/-- A method on one object of known cells that reads it alone. -/
def readSpec (h : FnOf P f fn) (X : Type) (cx : X → Cx P) (hn0 : ∀ x, (cx x).n0 = 0) (rd : List SA → List SV → Option X) (cells : X → List SA) (args : X → List SV) (pre : X → Option Prop) (val : X → SV)
    (hrd : ∀ cs as x, rd cs as = some x → as = args x ∧ ∀ ρ, (args x).map (SV.ren ρ) = args x ∧ ∃ l, subCon ((Con.flat (cells x)).ren ρ) (.flat cs) = some l ∧ Holds l)
    (hok : ∀ x, (val x).ok 0 = true) (hrun : ∀ x, obp (pre x) → Runs (cx x) fn (.one (.a (.ptr 0 0)) :: args x) [some ⟨false, .flat (cells x)⟩] fun v _ => isRes (val x) v) : PSpec P where
  f := f
  X := X
  inp := fun as m => match as with
    | .one (.a (.ptr i 0)) :: as => (match m.reg i with
      | some ⟨_, .flat cs⟩ => rd cs as
      | _ => none)
    | _ => none
  pre := pre
  res := val
  sound := fun as m y hy hp e w0 W w hrel => .inl ⟨h.ent _ _, by
    split at hy
    · rename_i i as'
      split at hy
      · rename_i rw cs hreg
        obtain ⟨h1, h2⟩ := hrd _ _ _ hy
        obtain ⟨h3, l, h4, h5⟩ := h2 [i]
        subst h1
        have hi := reg_of hreg
        have hil : i < m.length := (List.getElem?_eq_some_iff.1 hi).1
        refine read_sound h.mixed h.at_ (by rw [hn0 y]; exact Nat.zero_le _) ?_ (hok y) (hrun y hp) (ρ := [i]) ?_ ⟨rfl, rfl, ?_, ?_, plainB_ok rfl⟩ e w0 W w hrel
        · intro j r hj
          cases j with
          | zero => simp at hj; subst hj; rfl
          | succ j => simp at hj
        · rw [List.map_cons, h3]; rfl
        · intro j hj
          obtain rfl : j = 0 := by simp at hj; omega
          exact hil
        · intro j r hj
          cases j with
          | zero =>
            simp at hj
            subst hj
            exact ⟨_, l, hi, fun hh => by simp at hh, h4, h5⟩
          | succ j => simp at hj
      · cases hy
    · cases hy⟩

end
end Go.Sx

/-
  Part 17: whole numbers.
-/
namespace Go.Sx

theorem w64 {n : Int} (h : -9223372036854775808 ≤ n ∧ n ≤ 9223372036854775807) : IntKind.i64.wrap n = n := IntWalk.i64_in n h
theorem wu64 (n : Int) : IntKind.u64.wrap n = n % 18446744073709551616 := IntKind.wrap_u64 n

theorem and_mask (a : Int) (k : Nat) (hk : k ≤ 63) : bits .and .i64 a ((2 ^ k - 1 : Nat) : Int) = a % ((2 ^ k : Nat) : Int) := by
  have h1 : (2 : Nat) ^ k ≤ 2 ^ 63 := Nat.pow_le_pow_right (by decide) hk
  have h0 : 0 < (2 : Nat) ^ k := Nat.pow_pos (by decide)
  have hd : (2 : Nat) ^ k ∣ 2 ^ 64 := Nat.pow_dvd_pow 2 (by omega)
  have hb : (BitVec.ofInt 64 ((2 ^ k - 1 : Nat) : Int)).toNat = 2 ^ k - 1 := by
    rw [BitVec.toNat_ofInt]
    rw [Int.emod_eq_of_lt (by omega) (by have : ((2 ^ k - 1 : Nat) : Int) ≤ ((2 ^ 63 : Nat) : Int) := by exact_mod_cast (by omega : 2 ^ k - 1 ≤ 2 ^ 63)
                                         have h2 : ((2 ^ 63 : Nat) : Int) < ((2 ^ 64 : Nat) : Int) := by decide
                                         omega)]
    omega
  have ha : ((BitVec.ofInt 64 a &&& BitVec.ofInt 64 ((2 ^ k - 1 : Nat) : Int)).toNat : Int) = a % ((2 ^ k : Nat) : Int) := by
    rw [BitVec.toNat_and, hb, Nat.and_two_pow_sub_one_eq_mod, BitVec.toNat_ofInt]
    rw [Int.natCast_emod]
    have h3 : 0 ≤ a % ((2 ^ 64 : Nat) : Int) := Int.emod_nonneg _ (by decide)
    rw [Int.toNat_of_nonneg h3]
    exact Int.emod_emod_of_dvd a (Int.natCast_dvd_natCast.2 hd)
  show IntKind.i64.wrap ((BitVec.ofInt 64 a &&& BitVec.ofInt 64 ((2 ^ k - 1 : Nat) : Int)).toNat : Int) = _
  rw [ha]
  have h4 : 0 ≤ a % ((2 ^ k : Nat) : Int) := Int.emod_nonneg _ (by omega)
  have h5 : a % ((2 ^ k : Nat) : Int) < ((2 ^ k : Nat) : Int) := Int.emod_lt_of_pos _ (by omega)
  have h6 : ((2 ^ k : Nat) : Int) ≤ ((2 ^ 63 : Nat) : Int) := by exact_mod_cast h1
  have h7 : ((2 ^ 63 : Nat) : Int) = 9223372036854775808 := by decide
  exact w64 (by omega)

theorem u64_of {a : Int} (h : (Lit.int .u64 a).wf = true) : 0 ≤ a ∧ a < 18446744073709551616 := by
  have := (Lit.wf_int_iff _ _).1 h
  have h1 : IntKind.u64.min = 0 := rfl
  have h2 : IntKind.u64.max = 18446744073709551615 := rfl
  omega
theorem i64_of {a : Int} (h : (Lit.int .i64 a).wf = true) : -9223372036854775808 ≤ a ∧ a ≤ 9223372036854775807 := by
  have := (Lit.wf_int_iff _ _).1 h
  have h1 : IntKind.i64.min = -9223372036854775808 := rfl
  have h2 : IntKind.i64.max = 9223372036854775807 := rfl
  omega
theorem u32_of {a : Int} (h : (Lit.int .u32 a).wf = true) : 0 ≤ a ∧ a < 4294967296 := by
  have := (Lit.wf_int_iff _ _).1 h
  have h1 : IntKind.u32.min = 0 := rfl
  have h2 : IntKind.u32.max = 4294967295 := rfl
  omega
theorem u8_of {a : Int} (h : (Lit.int .u8 a).wf = true) : 0 ≤ a ∧ a < 256 := by
  have := (Lit.wf_int_iff _ _).1 h
  have h1 : IntKind.u8.min = 0 := rfl
  have h2 : IntKind.u8.max = 255 := rfl
  omega

/-- the invariant is met -/
theorem enter_mk {la : LA} {n0 : Nat} {S : St} {C : la.ι → Prop} (i : la.ι) (hi : la.inv i) (h : fSt (nilS la.nl S) fun S0 => ghE (la.gs S0) S0 (enterS la n0 C i)) : enter la n0 S C := ⟨i, hi, h⟩

end Go.Sx

/-
  Part 18: contracts of functions of numbers and slices, that read what they are given and may make new memory.
-/
namespace Go.Sx
open Go.RowKit

/-- what an argument's cell shows; a slice: its rows from the first on -/
inductive At where
  | i (k : IntKind) (n : Int)
  | b (b : Bool)
  | s (len cap N : Nat) (cols : List Col)

/-- its shape -/
inductive Sp where
  | i (k : IntKind)
  | b
  | s (row : List (Option IntKind))

/-- where a slice's memory stands with the caller -/
inductive Src where
  | nil
  | here (i st r : Nat)

def zeroOf : Option IntKind → Col
  | some k => .int k fun _ => 0
  | none => .bool fun _ => false

def likeRow : List (Option IntKind) → List Col → Bool
  | [], [] => true
  | some k :: ks, .int k' _ :: cs => kindEq k k' && likeRow ks cs
  | none :: ks, .bool _ :: cs => likeRow ks cs
  | _, _ => false

def rdA (m : Mem) : Sp → SA → Option (At × List Src)
  | .i k, .v (.int k' n) => (match kindEq k k' with | true => some (.i k n, []) | false => none)
  | .b, x => (match boolOf x with | some b => some (.b b, []) | none => none)
  | .s row, .v (.slice none 0 0) => some (.s 0 0 0 (row.map zeroOf), [.nil])
  | .s row, .slc i st r len cap => (match m.reg i with
    | some ⟨_, .tab N cols⟩ => (match Nat.beq st cols.length, likeRow row cols with
      | true, true => some (.s len cap (N - r) (cols.map (Col.from_ r)), [.here i st r])
      | _, _ => none)
    | _ => none)
  | _, _ => none

def rdAs (m : Mem) : List Sp → List SA → Option (List At × List Src)
  | [], [] => some ([], [])
  | s :: ss, x :: xs => (match rdA m s x, rdAs m ss xs with | some (a, l), some (as, r) => some (a :: as, l ++ r) | _, _ => none)
  | _, _ => none

inductive Sp1 where
  | a (s : Sp)
  | agg (l : List Sp)
inductive Ar where
  | a (x : At)
  | agg (l : List At)

def rdV (m : Mem) : Sp1 → SV → Option (Ar × List Src)
  | .a s, .one (.a x) => (match rdA m s x with | some (a, l) => some (.a a, l) | none => none)
  | .agg ss, .one (.agg xs) => (match rdAs m ss xs with | some (as, l) => some (.agg as, l) | none => none)
  | _, _ => none

def rdArgs (m : Mem) : List Sp1 → List SV → Option (List Ar × List Src)
  | [], [] => some ([], [])
  | s :: ss, x :: xs => (match rdV m s x, rdArgs m ss xs with | some (a, l), some (as, r) => some (a :: as, l ++ r) | _, _ => none)
  | _, _ => none

/-! the callee's view -/
def At.n : At → Nat
  | .s .. => 1
  | _ => 0
def mkA (j : Nat) : At → SA
  | .i k n => .v (.int k n)
  | .b b => .v (.bool b)
  | .s len cap _ cols => .slc j cols.length 0 len cap
def mkAs : Nat → List At → List SA
  | _, [] => []
  | j, x :: l => mkA j x :: mkAs (j + x.n) l
def nAs : List At → Nat
  | [] => 0
  | x :: l => x.n + nAs l
def Ar.n : Ar → Nat
  | .a x => x.n
  | .agg l => nAs l
def mkV (j : Nat) : Ar → SV
  | .a x => .one (.a (mkA j x))
  | .agg l => .one (.agg (mkAs j l))
def mkArgs : Nat → List Ar → List SV
  | _, [] => []
  | j, x :: l => mkV j x :: mkArgs (j + x.n) l
def At.mem : At → Mem
  | .s _ _ N cols => [some ⟨false, .tab N cols⟩]
  | _ => []
def memAs : List At → Mem
  | [] => []
  | x :: l => x.mem ++ memAs l
def Ar.mem : Ar → Mem
  | .a x => x.mem
  | .agg l => memAs l
def mkMem : List Ar → Mem
  | [] => []
  | x :: l => x.mem ++ mkMem l

theorem At.mem_len (x : At) : x.mem.length = x.n := by cases x <;> rfl
theorem memAs_len : ∀ l : List At, (memAs l).length = nAs l
  | [] => rfl
  | x :: l => by simp [memAs, nAs, At.mem_len, memAs_len l]
theorem Ar.mem_len (x : Ar) : x.mem.length = x.n := by cases x <;> simp [Ar.mem, Ar.n, At.mem_len, memAs_len]

def Src.den (e : Env) : Src → Option Addr
  | .nil => none
  | .here i st r => at_ e i (r * st)

/-- what is said of the arguments: sources srcs of the names j, j + 1, .. -/
def SrcOK (e e0 : Env) (j : Nat) (srcs : List Src) : Prop := ∀ q s, srcs[q]? = some s → e0 (j + q) = s.den e

theorem SrcOK.left {e e0 : Env} {j : Nat} {l r : List Src} (h : SrcOK e e0 j (l ++ r)) : SrcOK e e0 j l := fun q s hq => h q s (by
  rw [List.getElem?_append_left (List.getElem?_eq_some_iff.1 hq).1]; exact hq)
theorem SrcOK.right {e e0 : Env} {j : Nat} {l r : List Src} (h : SrcOK e e0 j (l ++ r)) : SrcOK e e0 (j + l.length) r := fun q s hq => by
  have := h (l.length + q) s (by rw [List.getElem?_append_right (by omega), Nat.add_sub_cancel_left]; exact hq)
  rw [← this]; congr 1; omega

/-- the regions as the callee sees them -/
def MemOK (e0 : Env) (w : World) (j : Nat) (m : Mem) : Prop := ∀ q r, m[q]? = some (some r) → r.rw = false ∧ RegOK e0 w (e0 (j + q)) r

theorem MemOK.app {e0 : Env} {w : World} {j : Nat} {l r : Mem} (h1 : MemOK e0 w j l) (h2 : MemOK e0 w (j + l.length) r) : MemOK e0 w j (l ++ r) := fun q x hq => by
  rcases Nat.lt_or_ge q l.length with hlt | hge
  · rw [List.getElem?_append_left hlt] at hq
    exact h1 q x hq
  · rw [List.getElem?_append_right hge] at hq
    have := h2 _ x hq
    rwa [show j + l.length + (q - l.length) = j + q by omega] at this
theorem MemOK.nil {e0 : Env} {w : World} {j : Nat} : MemOK e0 w j [] := fun q r hq => by simp at hq

section
variable {P : Program} {e e0 : Env} {w0 : World} {W : Nat → Prop} {m : Mem} {w : World}


theorem rdA_ok (hrel : Rel e w0 W m w) {s : Sp} {x : SA} {a : At} {l : List Src} (h : rdA m s x = some (a, l)) {j : Nat} (hs : SrcOK e e0 j l) :
    x.den e = (mkA j a).den e0 ∧ l.length = a.n ∧ MemOK e0 w j a.mem := by
  unfold rdA at h
  split at h
  · split at h
    · rename_i hk
      cases h
      have := kind_eq hk
      subst this
      exact ⟨rfl, rfl, MemOK.nil⟩
    · cases h
  · split at h
    · rename_i b hb
      cases h
      exact ⟨boolOf_den hb, rfl, MemOK.nil⟩
    · cases h
  · rename_i row
    cases h
    have h0 := hs 0 .nil rfl
    refine ⟨?_, rfl, fun q r hq => ?_⟩
    · simp only [SA.den, mkA, at_]
      rw [Nat.add_zero] at h0
      rw [h0]; rfl
    · cases q with
      | zero =>
        simp [At.mem] at hq
        subst hq
        exact ⟨rfl, fun jj v hv => by simp [Con.cell] at hv, fun es k hk => by cases hk⟩
      | succ q => simp [At.mem] at hq
  · rename_i row i st r len cap
    split at h
    · rename_i rw N cols hreg
      split at h
      · rename_i hst hlk
        cases h
        have hst := Nat.beq_iff.1 hst
        subst hst
        have h0 := hs 0 _ rfl
        rw [Nat.add_zero] at h0
        have hR := hrel.reg _ _ (reg_of hreg)
        refine ⟨?_, rfl, fun q rr hq => ?_⟩
        · simp only [SA.den, mkA, List.length_map, at_]
          rw [h0]
          simp only [Src.den, at_]
          cases e i with
          | none => rfl
          | some a => simp [Addr.add_zero']
        · cases q with
          | zero =>
            simp [At.mem] at hq
            subst hq
            refine ⟨rfl, fun jj v hv => ?_, fun es k hk => by cases hk⟩
            simp only [Con.cell, List.length_map] at hv
            split at hv
            · rename_i hlt
              rw [List.getElem?_map] at hv
              cases hq : cols[jj % cols.length]? with
              | none => rw [hq] at hv; cases hv
              | some q =>
                rw [hq] at hv
                simp only [Option.map_some, from_at, Option.some.injEq] at hv
                have hc := tab_cell (e := e) (n := N) (cols := cols) (r := jj / cols.length + r) (by generalize jj / cols.length = q0 at hlt; omega) hq
                obtain ⟨a, ha, hcell, _⟩ := hR.cell _ _ hc
                refine ⟨a.add (r * cols.length), ?_, ?_, fun h => by cases h⟩
                · rw [Nat.add_zero, h0]; simp [Src.den, at_some ha]
                · rw [add_add, ← hv, ← hcell]
                  congr 2
                  rw [Nat.add_mul]
                  have := Nat.div_add_mod jj cols.length
                  rw [Nat.mul_comm] at this
                  omega
            · cases hv
          | succ q => simp [At.mem] at hq
      · cases h
    · cases h
  · cases h

theorem rdAs_ok (hrel : Rel e w0 W m w) : ∀ {ss : List Sp} {xs : List SA} {as : List At} {l : List Src}, rdAs m ss xs = some (as, l) → ∀ {j : Nat}, SrcOK e e0 j l →
    xs.map (SA.den e) = (mkAs j as).map (SA.den e0) ∧ l.length = nAs as ∧ MemOK e0 w j (memAs as)
  | [], [], _, _, h, j, _ => by cases h; exact ⟨rfl, rfl, MemOK.nil⟩
  | s :: ss, x :: xs, as, l, h, j, hs => by
    simp only [rdAs] at h
    split at h
    · rename_i a l1 as' l2 h1 h2
      cases h
      obtain ⟨h3, h4, h5⟩ := rdA_ok hrel h1 hs.left
      have hr := hs.right
      rw [h4] at hr
      obtain ⟨h6, h7, h8⟩ := rdAs_ok hrel h2 hr
      refine ⟨by simp only [List.map_cons, mkAs, h3, h6], by simp [nAs, h4, h7], ?_⟩
      exact h5.app (by rw [At.mem_len]; exact h8)
    · cases h
  | [], _ :: _, _, _, h, _, _ => by cases h
  | _ :: _, [], _, _, h, _, _ => by cases h

theorem rdV_ok (hrel : Rel e w0 W m w) {s : Sp1} {x : SV} {a : Ar} {l : List Src} (h : rdV m s x = some (a, l)) {j : Nat} (hs : SrcOK e e0 j l) :
    x.den e = (mkV j a).den e0 ∧ l.length = a.n ∧ MemOK e0 w j a.mem := by
  unfold rdV at h
  split at h
  · split at h
    · rename_i a' l' h1
      cases h
      exact rdA_ok hrel h1 hs
    · cases h
  · split at h
    · rename_i as l' h1
      cases h
      obtain ⟨h3, h4, h5⟩ := rdAs_ok hrel h1 hs
      exact ⟨by simp only [SV.den, SV1.den, mkV, h3], h4, h5⟩
    · cases h
  · cases h

theorem rdArgs_ok (hrel : Rel e w0 W m w) : ∀ {ss : List Sp1} {xs : List SV} {as : List Ar} {l : List Src}, rdArgs m ss xs = some (as, l) → ∀ {j : Nat}, SrcOK e e0 j l →
    xs.map (SV.den e) = (mkArgs j as).map (SV.den e0) ∧ MemOK e0 w j (mkMem as) ∧ (mkMem as).length = l.length
  | [], [], _, _, h, j, _ => by cases h; exact ⟨rfl, MemOK.nil, rfl⟩
  | s :: ss, x :: xs, as, l, h, j, hs => by
    simp only [rdArgs] at h
    split at h
    · rename_i a l1 as' l2 h1 h2
      cases h
      obtain ⟨h3, h4, h5⟩ := rdV_ok hrel h1 hs.left
      have hr := hs.right
      rw [h4] at hr
      obtain ⟨h6, h7, h8⟩ := rdArgs_ok hrel h2 hr
      refine ⟨by simp only [List.map_cons, mkArgs, h3, h6], ?_, by simp [mkMem, Ar.mem_len, h8, h4]⟩
      exact h5.app (by rw [Ar.mem_len]; exact h7)
    · cases h
  | [], _ :: _, _, _, h, _, _ => by cases h
  | _ :: _, [], _, _, h, _, _ => by cases h

end

/-! what comes back, in the caller's names: k the callee's names that came in, n the caller's -/
def trN (k n i : Nat) : Nat := n + (i - k)
def trSA (srcs : List Src) (k n : Nat) : SA → SA
  | .ptr i off => .ptr (trN k n i) off
  | .rp i st r c => .rp (trN k n i) st r c
  | .slc i st r len cap => (match Nat.blt i k with
    | true => (match srcs[i]? with
      | some (.here i' _ r') => .slc i' st (r + r') len cap
      | _ => .v (.slice none len cap))
    | false => .slc (trN k n i) st r len cap)
  | .map i => .map (trN k n i)
  | .clo f caps => .clo f (caps.map fun c => (trN k n c.1, c.2))
  | x => x
def trSV1 (srcs : List Src) (k n : Nat) : SV1 → SV1
  | .a x => .a (trSA srcs k n x)
  | .agg l => .agg (l.map (trSA srcs k n))
def trSV (srcs : List Src) (k n : Nat) : SV → SV
  | .one x => .one (trSV1 srcs k n x)
  | .tup l => .tup (l.map (trSV1 srcs k n))
def trReg (srcs : List Src) (k n : Nat) : Option Reg → Option Reg
  | some ⟨true, .flat l⟩ => some ⟨true, .flat (l.map (trSA srcs k n))⟩
  | some ⟨true, .room ..⟩ => none
  | some ⟨true, c⟩ => some ⟨true, c⟩
  | _ => none
def trMem (srcs : List Src) (k : Nat) (m mr : Mem) : Mem := m ++ (mr.drop k).map (trReg srcs k m.length)

/-- names that can be said with the caller; sts: the widths of the rows that came in -/
def SA.okT (k : Nat) (sts : List Nat) : SA → Bool
  | .ptr i _ | .rp i _ _ _ | .map i => Nat.ble k i
  | .slc i st _ _ _ => (match Nat.ble k i with | true => true | false => Nat.beq (sts.getD i 0) st)
  | .clo _ caps => caps.all fun c => Nat.ble k c.1
  | .gcl .. => false
  | _ => true
def SV1.okT (k : Nat) (sts : List Nat) : SV1 → Bool
  | .a x => x.okT k sts
  | .agg l => l.all (SA.okT k sts)
def SV.okT (k : Nat) (sts : List Nat) : SV → Bool
  | .one x => x.okT k sts
  | .tup l => l.all (SV1.okT k sts)
def regOkT (k : Nat) (sts : List Nat) : Option Reg → Bool
  | some ⟨_, .flat l⟩ => l.all (SA.okT k sts)
  | _ => true
def altOkT (k : Nat) (sts : List Nat) (v : SV) (m : Mem) : Bool := v.okT k sts && (m.drop k).all (regOkT k sts)
def Alt.okT (k : Nat) (sts : List Nat) : Alt → Prop
  | .one v m => altOkT k sts v m = true
  | .cond _ v m => altOkT k sts v m = true
  | .fam _ _ v m => ∀ y, altOkT k sts (v y) (m y) = true
def Alt.tr (srcs : List Src) (k : Nat) (m : Mem) : Alt → Alt
  | .one v mr => .one (trSV srcs k m.length v) (trMem srcs k m mr)
  | .cond p v mr => .cond p (trSV srcs k m.length v) (trMem srcs k m mr)
  | .fam α p v mr => .fam α p (fun y => trSV srcs k m.length (v y)) (fun y => trMem srcs k m (mr y))

def stsOf : Mem → List Nat
  | [] => []
  | some ⟨_, .tab _ cols⟩ :: l => cols.length :: stsOf l
  | _ :: l => 0 :: stsOf l

def srcSt : Src → Nat → Prop
  | .nil, _ => True
  | .here _ st _, n => st = n

section
variable {P : Program} {e e2 e3 : Env} {w0 : World} {W : Nat → Prop} {m : Mem} {w : World}

/-- how the names stand to each other -/
structure TrOK (e e2 e3 : Env) (srcs : List Src) (sts : List Nat) (k n N : Nat) : Prop where
  len : srcs.length = k
  old : ∀ (i : Nat) (s : Src), srcs[i]? = some s → e2 i = s.den e
  st : ∀ (i : Nat) (s : Src), srcs[i]? = some s → srcSt s (sts.getD i 0)
  src : ∀ (i i' st r : Nat), srcs[i]? = some (Src.here i' st r) → i' < n
  keep : ∀ i, i < n → e3 i = e i
  new : ∀ i, k ≤ i → e3 (trN k n i) = e2 i

theorem trSA_den {srcs : List Src} {sts : List Nat} {k n N : Nat} (h : TrOK e e2 e3 srcs sts k n N) {x : SA} (hx : x.okT k sts = true) : (trSA srcs k n x).den e3 = x.den e2 := by
  cases x with
  | ptr i off => simp only [trSA, SA.den, at_]; rw [h.new i (Nat.ble_iff.1 hx)]
  | rp i st r c => simp only [trSA, SA.den, at_]; rw [h.new i (Nat.ble_iff.1 hx)]
  | map i => simp only [trSA, SA.den]; rw [h.new i (Nat.ble_iff.1 hx)]
  | clo f caps =>
    simp only [trSA, SA.den, List.map_map]
    congr 2
    apply List.map_congr_left
    intro c hc
    have := Nat.ble_iff.1 (List.all_eq_true.1 hx c hc)
    simp only [Function.comp_def, at_]
    rw [h.new _ this]
  | gcl => cases hx
  | slc i st r len cap =>
    simp only [SA.okT] at hx
    by_cases hk : k ≤ i
    · have hb : Nat.blt i k = false := by
        cases hb : Nat.blt i k with
        | false => rfl
        | true => have := blt_iff.1 hb; omega
      simp only [trSA, hb, SA.den, at_]
      rw [h.new i hk]
    · have hb : Nat.blt i k = true := blt_iff.2 (by omega)
      have hbl : Nat.ble k i = false := by
        cases hb : Nat.ble k i with
        | false => rfl
        | true => exact absurd (Nat.ble_iff.1 hb) hk
      rw [hbl] at hx
      have hst := Nat.beq_iff.1 hx
      have hi : i < srcs.length := by rw [h.len]; omega
      have hs : srcs[i]? = some srcs[i] := List.getElem?_eq_getElem hi
      have ho := h.old i _ hs
      have hst2 := h.st i _ hs
      simp only [trSA, hb, hs]
      cases hsi : srcs[i] with
      | nil =>
        rw [hsi] at ho
        simp only [SA.den, at_, ho, Src.den, Option.map_none]
      | here i' st' r' =>
        rw [hsi] at ho hst2 hs
        simp only [srcSt] at hst2
        simp only [SA.den, at_, ho, Src.den]
        rw [h.keep i' (h.src i i' st' r' hs)]
        rw [hst2, hst]
        cases e i' with
        | none => rfl
        | some a => simp [add_add, Nat.add_mul, Nat.add_comm]
  | _ => rfl

theorem trSV1_den {srcs : List Src} {sts : List Nat} {k n N : Nat} (h : TrOK e e2 e3 srcs sts k n N) {x : SV1} (hx : x.okT k sts = true) : (trSV1 srcs k n x).den e3 = x.den e2 := by
  cases x with
  | a x => exact trSA_den h hx
  | agg l =>
    simp only [trSV1, SV1.den, List.map_map]
    congr 2
    exact List.map_congr_left fun x hxl => trSA_den h (List.all_eq_true.1 hx x hxl)
theorem trSV_den {srcs : List Src} {sts : List Nat} {k n N : Nat} (h : TrOK e e2 e3 srcs sts k n N) {x : SV} (hx : x.okT k sts = true) : (trSV srcs k n x).den e3 = x.den e2 := by
  cases x with
  | one x => exact trSV1_den h hx
  | tup l =>
    simp only [trSV, SV.den, List.map_map]
    congr 2
    exact List.map_congr_left fun x hxl => trSV1_den h (List.all_eq_true.1 hx x hxl)

theorem trReg_cell {srcs : List Src} {sts : List Nat} {k n N : Nat} (h : TrOK e e2 e3 srcs sts k n N) {x : Option Reg} {r : Reg} (hr : trReg srcs k n x = some r) (hx : regOkT k sts x = true) :
    ∃ c, x = some ⟨true, c⟩ ∧ r.rw = true ∧ (∀ j, r.con.cell e3 j = c.cell e2 j) ∧ (∀ es q, r.con = .room es q → c = .room es q) ∧ (r.con.some_ → c.some_) := by
  unfold trReg at hr
  split at hr
  · rename_i l
    cases hr
    refine ⟨_, rfl, rfl, fun j => ?_, fun es q hh => (by cases hh), fun hs hh => ?_⟩
    · simp only [Con.cell, List.getElem?_map, Option.map_map]
      cases hj : l[j]? with
      | none => rfl
      | some y => simp only [Option.map_some, Function.comp_def]; rw [trSA_den h (List.all_eq_true.1 hx y (List.mem_of_getElem? hj))]
    · subst hh; exact hs rfl
  · cases hr
  · rename_i c hc hc2
    cases hr
    refine ⟨c, rfl, rfl, fun j => ?_, fun es q hh => hh, id⟩
    cases c with
    | flat l => exact absurd rfl (hc l)
    | tab n cols => rfl
    | room es q => exact absurd rfl (hc2 es q)
    | obj t x I => rfl
  · cases hr

theorem trReg_obj {srcs : List Src} {k n : Nat} {x : Option Reg} {t : Nat} {y : Pay} {I : ObjI} (hr : trReg srcs k n x = some ⟨true, .obj t y I⟩) : x = some ⟨true, .obj t y I⟩ := by
  unfold trReg at hr
  split at hr
  · cases hr
  · cases hr
  · cases hr; rfl
  · cases hr

/-- Behind the call: the caller's memory, and what is new. -/
theorem Rel.grown (h : Rel e w0 W m w) (hok : Mem.ok m = true) {mr : Mem} {w' : World} {k : Nat} (hr : Rel e2 w (fun _ => False) mr w') {srcs : List Src} {sts : List Nat} {N : Nat} (ht : TrOK e e2 e3 srcs sts k m.length N) (hokr : (mr.drop k).all (regOkT k sts) = true) :
    Rel e3 w0 W (trMem srcs k m mr) w' := by
  have hsame := h.same hr.fr
  have hcase : ∀ i r, (trMem srcs k m mr)[i]? = some (some r) → (i < m.length ∧ m[i]? = some (some r)) ∨ ∃ j c, k ≤ j ∧ i = trN k m.length j ∧ mr[j]? = some (some ⟨true, c⟩) ∧ r.rw = true ∧ (∀ j, r.con.cell e3 j = c.cell e2 j) ∧ (∀ es q, r.con = .room es q → c = .room es q) ∧ (r.con.some_ → c.some_) := by
    intro i r hi
    unfold trMem at hi
    rcases Nat.lt_or_ge i m.length with hlt | hge
    · rw [List.getElem?_append_left hlt] at hi
      exact .inl ⟨hlt, hi⟩
    · rw [List.getElem?_append_right hge, List.getElem?_map, List.getElem?_drop] at hi
      cases hm : mr[k + (i - m.length)]? with
      | none => rw [hm] at hi; cases hi
      | some x =>
        rw [hm] at hi
        simp only [Option.map_some, Option.some.injEq] at hi
        have hx : regOkT k sts x = true := List.all_eq_true.1 hokr x (by
          refine List.mem_of_getElem? (i := i - m.length) ?_
          rw [List.getElem?_drop]; exact hm)
        obtain ⟨c, h1, h2, h3, h4, h5⟩ := trReg_cell ht hi hx
        subst h1
        exact .inr ⟨k + (i - m.length), c, by omega, by unfold trN; omega, hm, h2, h3, h4, h5⟩
  have hlt : ∀ i r a, i < m.length → m[i]? = some (some r) → r.con.some_ → e3 i = some a → a.block < w.heap.size := by
    intro i r a hi hm hs ha
    rw [ht.keep i hi] at ha
    have := h.reg i r hm
    rw [ha] at this
    exact this.lt hs
  have hge : ∀ j c a, k ≤ j → mr[j]? = some (some ⟨true, c⟩) → c.some_ → e3 (trN k m.length j) = some a → w.heap.size ≤ a.block := by
    intro j c a hj hm hs ha
    rw [ht.new j hj] at ha
    rcases hr.wr j _ a hm rfl hs ha with h1 | h1
    · exact h1.elim
    · exact h1
  have hobj : ∀ i x I, IsO (trMem srcs k m mr) i x I → (i < m.length ∧ IsO m i x I) ∨ (m.length ≤ i ∧ ∃ j, k ≤ j ∧ j = k + (i - m.length) ∧ IsO mr j x I) := by
    rintro i x I ⟨t, hi⟩
    unfold trMem at hi
    rcases Nat.lt_or_ge i m.length with hlt | hge
    · rw [List.getElem?_append_left hlt] at hi
      exact .inl ⟨hlt, t, hi⟩
    · rw [List.getElem?_append_right hge, List.getElem?_map, List.getElem?_drop] at hi
      cases hm : mr[k + (i - m.length)]? with
      | none => rw [hm] at hi; cases hi
      | some x =>
        rw [hm] at hi
        simp only [Option.map_some, Option.some.injEq] at hi
        exact .inr ⟨hge, _, by omega, rfl, t, by rw [hm, trReg_obj hi]⟩
  refine ⟨hsame.fr, fun i r hi => ?_, fun i j ri rj a b hij hi hj hrw hsi hsj ha hb => ?_, fun i r a hi hrw hs ha => ?_, ?_, h.ro.to fun i t x I hi => by
    rcases hcase i _ hi with ⟨h1, h2⟩ | ⟨_, _, _, _, _, hrw, _⟩
    · exact ⟨i, h2, ht.keep i h1⟩
    · cases hrw⟩
  · rcases hcase i r hi with ⟨h1, h2⟩ | ⟨j, c, h1, rfl, h3, h4, h5, h6, _⟩
    · rw [ht.keep i h1]
      have h3 := hsame.reg i r h2
      refine ⟨fun j v hv => ?_, h3.map⟩
      rw [Con.congr ht.keep (Mem.ok_get hok h2)] at hv
      exact h3.cell j v hv
    · rw [ht.new j h1]
      have h7 := hr.reg j _ h3
      refine ⟨fun q v hv => ?_, fun es q hh j2 hj2 => by
        obtain ⟨a, u, ha, hc, hf⟩ := h7.map es q (h6 es q hh) j2 hj2
        exact ⟨a, u, ha, hc, fun _ => hf rfl⟩⟩
      rw [h5] at hv
      obtain ⟨a, ha, hc, hf⟩ := h7.cell q v hv
      exact ⟨a, ha, hc, fun _ => hf rfl⟩
  · rcases hcase i ri hi with ⟨h1, h2⟩ | ⟨i', ci, h1, rfl, h3, h4, h5, h6, h7⟩ <;> rcases hcase j rj hj with ⟨g1, g2⟩ | ⟨j', cj, g1, rfl, g3, g4, g5, g6, g7⟩
    · rw [ht.keep i h1] at ha
      rw [ht.keep j g1] at hb
      exact h.sep i j ri rj a b hij h2 g2 hrw hsi hsj ha hb
    · have := hlt i ri a h1 h2 hsi ha
      have := hge j' cj b g1 g3 (g7 hsj) hb
      omega
    · have := hlt j rj b g1 g2 hsj hb
      have := hge i' ci a h1 h3 (h7 hsi) ha
      omega
    · rw [ht.new i' h1] at ha
      rw [ht.new j' g1] at hb
      exact hr.sep i' j' _ _ a b (fun hh => hij (by rw [hh])) h3 g3 rfl (h7 hsi) (g7 hsj) ha hb
  · rcases hcase i r hi with ⟨h1, h2⟩ | ⟨i', ci, h1, rfl, h3, h4, h5, h6, h7⟩
    · rw [ht.keep i h1] at ha
      exact h.wr i r a h2 hrw hs ha
    · have := hge i' ci a h1 h3 (h7 hs) ha
      have := h.fr.size
      right; omega
  · obtain ⟨F, hF⟩ := hsame.obj
    obtain ⟨F0, hF0⟩ := h.obj
    obtain ⟨G, hG⟩ := hr.obj
    refine ⟨fun i b => if i < m.length then F0 i b else G (k + (i - m.length)) b, ?_⟩
    have hnew : ∀ {i x I b}, m.length ≤ i → ∀ {j}, j = k + (i - m.length) → IsO mr j x I → (if i < m.length then F0 i b else G (k + (i - m.length)) b) → w.heap.size ≤ b := by
      intro i x I b hi j hj hO hb
      rw [if_neg (by omega), ← hj] at hb
      rcases hG.wr hO hb with h1 | h1
      · exact h1.elim
      · exact h1
    have hold : ∀ {i x I b}, i < m.length → IsO m i x I → (if i < m.length then F0 i b else G (k + (i - m.length)) b) → F0 i b ∧ b < w.heap.size := by
      intro i x I b hi hO hb
      rw [if_pos hi] at hb
      exact ⟨hb, I.lt (hF0.ok hO) _ hb⟩
    refine ⟨fun {i x I} hi => ?_, fun {i j x y I J b} hij hi hj hb hb2 => ?_, fun {i j x I r a} hi hj hs ha hb => ?_, fun {i x I b} hi hb => ?_⟩
    · rcases hobj i x I hi with ⟨h1, h2⟩ | ⟨h1, j, h3, h4, h5⟩
      · simp only [if_pos h1]
        rw [ht.keep i h1]
        exact I.frame (hF0.ok h2) hr.fr.size fun b hb => hr.fr.block b (I.lt (hF0.ok h2) b hb) id
      · simp only [if_neg (Nat.not_lt.2 h1)]
        rw [← h4, show e3 i = e3 (trN k m.length j) by congr 1; unfold trN; omega, ht.new j h3]
        exact hG.ok h5
    · rcases hobj i x I hi with ⟨h1, h2⟩ | ⟨h1, i', h3, h4, h5⟩ <;> rcases hobj j y J hj with ⟨g1, g2⟩ | ⟨g1, j', g3, g4, g5⟩
      · exact hF0.apart hij h2 g2 (hold h1 h2 hb).1 (hold g1 g2 hb2).1
      · have := (hold h1 h2 hb).2
        have := hnew g1 g4 g5 hb2
        omega
      · have := (hold g1 g2 hb2).2
        have := hnew h1 h4 h5 hb
        omega
      · simp only [if_neg (Nat.not_lt.2 h1)] at hb
        simp only [if_neg (Nat.not_lt.2 g1)] at hb2
        rw [← h4] at hb
        rw [← g4] at hb2
        exact hG.apart (by omega) h5 g5 hb hb2
    · rcases hobj i x I hi with ⟨h1, h2⟩ | ⟨h1, i', h3, h4, h5⟩ <;> rcases hcase j r hj with ⟨g1, g2⟩ | ⟨j', cj, g1, rfl, g3, g4, g5, g6, g7⟩
      · rw [ht.keep j g1] at ha
        exact hF0.off h2 g2 hs ha (hold h1 h2 hb).1
      · have := (hold h1 h2 hb).2
        have := hge j' cj a g1 g3 (g7 hs) ha
        omega
      · have := hlt j r a g1 g2 hs ha
        have := hnew h1 h4 h5 hb
        omega
      · simp only [if_neg (Nat.not_lt.2 h1)] at hb
        rw [← h4] at hb
        rw [ht.new j' g1] at ha
        exact hG.off h5 g3 (g7 hs) ha hb
    · rcases hobj i x I hi with ⟨h1, h2⟩ | ⟨h1, i', h3, h4, h5⟩
      · exact hF0.wr h2 (hold h1 h2 hb).1
      · have := hnew h1 h4 h5 hb
        have := h.fr.size
        right; omega

/-- where the sources lie, and how wide their rows are -/
theorem rdA_src {s : Sp} {x : SA} {a : At} {l : List Src} (h : rdA m s x = some (a, l)) (hx : x.ok m.length = true) : ∀ q s, l[q]? = some s → srcSt s ((stsOf a.mem).getD q 0) ∧ ∀ i st r, s = .here i st r → i < m.length := by
  unfold rdA at h
  split at h
  · split at h
    · cases h; intro q s hq; simp at hq
    · cases h
  · split at h
    · cases h; intro q s hq; simp at hq
    · cases h
  · cases h
    intro q s hq
    cases q with
    | zero => simp at hq; subst hq; exact ⟨trivial, fun i st r hh => by cases hh⟩
    | succ q => simp at hq
  · split at h
    · split at h
      · rename_i hst _
        cases h
        intro q s hq
        cases q with
        | zero =>
          simp at hq; subst hq
          refine ⟨?_, fun i st r hh => by cases hh; exact blt_iff.1 hx⟩
          have hst := Nat.beq_iff.1 hst
          simp [srcSt, stsOf, At.mem, hst]
        | succ q => simp at hq
      · cases h
    · cases h
  · cases h

theorem stsOf_app (l r : Mem) : stsOf (l ++ r) = stsOf l ++ stsOf r := by
  induction l with
  | nil => rfl
  | cons x l ih =>
    rcases x with _ | ⟨rw, c⟩
    · simp [stsOf, ih]
    · cases c <;> simp [stsOf, ih]
theorem stsOf_len (l : Mem) : (stsOf l).length = l.length := by
  induction l with
  | nil => rfl
  | cons x l ih =>
    rcases x with _ | ⟨rw, c⟩
    · simp [stsOf, ih]
    · cases c <;> simp [stsOf, ih]

def SrcsIn (n : Nat) (l : List Src) (m : Mem) : Prop := l.length = m.length ∧ ∀ q s, l[q]? = some s → srcSt s ((stsOf m).getD q 0) ∧ ∀ i st r, s = .here i st r → i < n

theorem SrcsIn.app {n : Nat} {l r : List Src} {m1 m2 : Mem} (h1 : SrcsIn n l m1) (h2 : SrcsIn n r m2) : SrcsIn n (l ++ r) (m1 ++ m2) := by
  refine ⟨by simp [h1.1, h2.1], fun q s hq => ?_⟩
  rw [stsOf_app]
  rcases Nat.lt_or_ge q l.length with hlt | hge
  · rw [List.getElem?_append_left hlt] at hq
    obtain ⟨h3, h4⟩ := h1.2 q s hq
    refine ⟨?_, h4⟩
    rw [List.getD_eq_getElem?_getD, List.getElem?_append_left (by rw [stsOf_len, ← h1.1]; exact hlt), ← List.getD_eq_getElem?_getD]
    exact h3
  · rw [List.getElem?_append_right hge] at hq
    obtain ⟨h3, h4⟩ := h2.2 _ s hq
    refine ⟨?_, h4⟩
    rw [List.getD_eq_getElem?_getD, List.getElem?_append_right (by rw [stsOf_len, ← h1.1]; exact hge), stsOf_len, ← h1.1, ← List.getD_eq_getElem?_getD]
    exact h3

theorem rdA_in {s : Sp} {x : SA} {a : At} {l : List Src} (h : rdA m s x = some (a, l)) (hx : x.ok m.length = true) : SrcsIn m.length l a.mem := by
  refine ⟨?_, rdA_src h hx⟩
  unfold rdA at h
  repeat' (split at h)
  all_goals cases h
  all_goals rfl

theorem rdAs_in : ∀ {ss : List Sp} {xs : List SA} {as : List At} {l : List Src}, rdAs m ss xs = some (as, l) → xs.all (SA.ok m.length) = true → SrcsIn m.length l (memAs as)
  | [], [], _, _, h, _ => by cases h; exact ⟨rfl, fun q s hq => by simp at hq⟩
  | s :: ss, x :: xs, as, l, h, hx => by
    simp only [List.all_cons, Bool.and_eq_true] at hx
    simp only [rdAs] at h
    split at h
    · rename_i a l1 as' l2 h1 h2
      cases h
      exact (rdA_in h1 hx.1).app (rdAs_in h2 hx.2)
    · cases h
  | [], _ :: _, _, _, h, _ => by cases h
  | _ :: _, [], _, _, h, _ => by cases h

theorem rdArgs_in : ∀ {ss : List Sp1} {xs : List SV} {as : List Ar} {l : List Src}, rdArgs m ss xs = some (as, l) → xs.all (SV.ok m.length) = true → SrcsIn m.length l (mkMem as)
  | [], [], _, _, h, _ => by cases h; exact ⟨rfl, fun q s hq => by simp at hq⟩
  | s :: ss, x :: xs, as, l, h, hx => by
    simp only [List.all_cons, Bool.and_eq_true] at hx
    simp only [rdArgs] at h
    split at h
    · rename_i a l1 as' l2 h1 h2
      cases h
      refine SrcsIn.app ?_ (rdArgs_in h2 hx.2)
      unfold rdV at h1
      split at h1
      · split at h1
        · rename_i a' l' h3
          cases h1
          exact rdA_in h3 hx.1
        · cases h1
      · split at h1
        · rename_i a' l' h3
          cases h1
          exact rdAs_in h3 hx.1
        · cases h1
      · cases h1
    · cases h
  | [], _ :: _, _, _, h, _ => by cases h
  | _ :: _, [], _, _, h, _ => by cases h

theorem at_plain {x : At} {r : Option Reg} (h : r ∈ x.mem) (b : Bool) (t : Nat) (p : Pay) (I : ObjI) : r ≠ some ⟨b, .obj t p I⟩ := by
  cases x <;> simp only [At.mem, List.mem_singleton, List.not_mem_nil] at h
  subst h
  intro hh; cases hh
theorem memAs_plain : ∀ {l : List At} {r : Option Reg}, r ∈ memAs l → ∀ (b : Bool) (t : Nat) (p : Pay) (I : ObjI), r ≠ some ⟨b, .obj t p I⟩
  | [], _, h => by cases h
  | x :: l, r, h => by
    rcases List.mem_append.1 h with h | h
    · exact at_plain h
    · exact memAs_plain h
theorem mkMem_plain : ∀ {l : List Ar} {r : Option Reg}, r ∈ mkMem l → ∀ (b : Bool) (t : Nat) (p : Pay) (I : ObjI), r ≠ some ⟨b, .obj t p I⟩
  | [], _, h => by cases h
  | x :: l, r, h => by
    rcases List.mem_append.1 h with h | h
    · cases x with
      | a x => exact at_plain h
      | agg x => exact memAs_plain h
    · exact mkMem_plain h

/-- the callee's first world -/
theorem rel_in {e0 : Env} {m0 : Mem} (h : MemOK e0 w 0 m0) (hp : ∀ (r : Option Reg), r ∈ m0 → ∀ (b : Bool) (t : Nat) (p : Pay) (I : ObjI), r ≠ some ⟨b, .obj t p I⟩) : Rel e0 w (fun _ => False) m0 w :=
  ⟨Fr.refl _ _, fun i r hi => by have := (h i r hi).2; rwa [Nat.zero_add] at this, fun i j ri rj a b _ hi _ hrw => (by rw [(h i ri hi).1] at hrw; cases hrw), fun i r a hi hrw => (by rw [(h i r hi).1] at hrw; cases hrw), Objs.empty fun i x I ⟨t, hi⟩ => (by have := (h i _ hi).1; cases this), .none fun i t x I hi => hp _ (List.mem_of_getElem? hi) false t x I rfl⟩

theorem new_sound (hm : P.follows .mixedOrders = true) {f : FuncId} {fn : Func} (hfn : P.funcs[f]? = some fn) {cx : Cx P} {sh : List Sp1} {ars : List Ar} (hn0 : cx.n0 = (mkMem ars).length) {al : List Alt} {ren : SV → Mem → List Nat}
    {gs : SV → Mem → List GC} (h : Runs cx fn (mkArgs 0 ars) (mkMem ars) fun v m' => ghosted gs v m' fun v m' => anyAlt (mkMem ars) (ren v m') v m' al) (hal : ∀ a ∈ al, a.okT (mkMem ars).length (stsOf (mkMem ars))) {args : List SV} {srcs : List Src} (hrd : rdArgs m sh args = some (ars, srcs)) (hargs : args.all (SV.ok m.length) = true) (hok : Mem.ok m = true)
    (e : Env) (w0 : World) (W : Nat → Prop) (w : World) (hrel : Rel e w0 W m w) : Calls P f (args.map (SV.den e)).toArray w fun r w' => ∃ a ∈ al.map (Alt.tr srcs (mkMem ars).length m), a.Says e m.length w0 W r w' := by
  let e0 : Env := fun j => match srcs[j]? with | some s => s.den e | none => none
  have hs : SrcOK e e0 0 srcs := fun q s hq => by
    show (match srcs[0 + q]? with | some s => s.den e | none => none) = _
    rw [Nat.zero_add, hq]
  obtain ⟨h1, h2, h3⟩ := rdArgs_ok (e0 := e0) hrel hrd hs
  obtain ⟨_, hin⟩ := rdArgs_in hrd hargs
  rw [h1]
  refine (runs_ghosted hm hfn h (rel_in h2 fun r hr => mkMem_plain hr) (by omega)).mono fun r w' ⟨v, m', e', g1, g2, g3, g4⟩ => ?_
  obtain ⟨a, hal1, hia⟩ := anyAlt_mem g1
  refine ⟨a.tr srcs (mkMem ars).length m, List.mem_map_of_mem hal1, ?_⟩
  have key : ∀ v2 m2, altOne (mkMem ars) (ren v m') v m' v2 m2 → altOkT (mkMem ars).length (stsOf (mkMem ars)) v2 m2 = true → After e m.length w0 W (trSV srcs (mkMem ars).length m.length v2) (trMem srcs (mkMem ars).length m m2) r w' := by
    intro v2 m2 ha ht
    simp only [altOkT, Bool.and_eq_true] at ht
    unfold altOne at ha
    split at ha
    · rename_i l q1 q2 q3 q4 q5
      have q2 := Nat.ble_iff.1 q2
      simp only [Bool.and_eq_true] at q4
      obtain ⟨⟨⟨q6, q7⟩, q8⟩, q9⟩ := q4
      obtain ⟨x, y, q10, q11, rfl⟩ := app2_some q5
      obtain ⟨q12, q13⟩ := holds_app (allP_iff.1 ha).1
      have hr2 := g3.sub q11 q13 q2 q3
      let e3 : Env := fun i => if i < m.length then e i else renE e' (ren v m') ((mkMem ars).length + (i - m.length))
      have htr : TrOK e (renE e' (ren v m')) e3 srcs (stsOf (mkMem ars)) (mkMem ars).length m.length 0 := by
        refine ⟨h3.symm, fun i s hi => ?_, fun i s hi => (hin i s hi).1, fun i i' st r hi => (hin i _ hi).2 i' st r rfl, fun i hi => if_pos hi, fun i hi => ?_⟩
        · have hil : i < (mkMem ars).length := by rw [h3]; exact (List.getElem?_eq_some_iff.1 hi).1
          have := idB_ok q1 i hil
          rw [Nat.zero_add] at this
          show e' (rn (ren v m') i) = _
          rw [show rn (ren v m') i = i by simp only [rn, List.getD, this, Option.getD_some], g4 i (by omega)]
          have := hs i s hi
          rwa [Nat.zero_add] at this
        · show (if trN _ _ i < m.length then _ else _) = _
          unfold trN
          rw [if_neg (by omega)]
          congr 1; omega
      refine ⟨e3, fun i hi => if_pos hi, ?_, hrel.grown hok hr2 htr ht.2⟩
      rw [g2, trSV_den htr ht.1, ← SV.den_ren, eqSV_den q10 q12]
    · exact ha.elim
  have hat := hal a hal1
  cases a with
  | one v2 m2 => exact key _ _ hia hat
  | cond p v2 m2 => exact ⟨hia.1, key _ _ hia.2 hat⟩
  | fam α p v2 m2 =>
    obtain ⟨y, h5, h6⟩ := hia
    exact ⟨y, h5, key _ _ h6 (hat y)⟩

/-- the same of a function that answers without new memory -/
theorem readN_sound (hm : P.follows .mixedOrders = true) {f : FuncId} {fn : Func} (hfn : P.funcs[f]? = some fn) {cx : Cx P} {sh : List Sp1} {ars : List Ar} (hn0 : cx.n0 = (mkMem ars).length) {v0 : SV}
    (h : Runs cx fn (mkArgs 0 ars) (mkMem ars) fun v _ => isRes v0 v) (hv0 : v0.ok (mkMem ars).length = true) (hv1 : v0.okT (mkMem ars).length (stsOf (mkMem ars)) = true) {args : List SV} {srcs : List Src} (hrd : rdArgs m sh args = some (ars, srcs)) (hargs : args.all (SV.ok m.length) = true)
    (e : Env) (w0 : World) (W : Nat → Prop) (w : World) (hrel : Rel e w0 W m w) : Calls P f (args.map (SV.den e)).toArray w fun r w' => r = .returned ((trSV srcs (mkMem ars).length m.length v0).den e) ∧ Rel e w0 W m w' := by
  let e0 : Env := fun j => match srcs[j]? with | some s => s.den e | none => none
  have hs : SrcOK e e0 0 srcs := fun q s hq => by
    show (match srcs[0 + q]? with | some s => s.den e | none => none) = _
    rw [Nat.zero_add, hq]
  obtain ⟨h1, h2, h3⟩ := rdArgs_ok (e0 := e0) hrel hrd hs
  obtain ⟨_, hin⟩ := rdArgs_in hrd hargs
  rw [h1]
  refine (runs_sound hm hfn h (rel_in h2 fun r hr => mkMem_plain hr) (by omega)).mono fun r w' ⟨v, m', e', g1, g2, g3, g4⟩ => ⟨?_, hrel.same g3.fr⟩
  rw [g2, ← isRes_den (e := e') g1]
  rw [SV.congr (e := e0) (e' := e') (n := (mkMem ars).length) (fun i hi => g4 i (by omega)) hv0]
  -- in the caller's names; none is new
  let e3 : Env := fun i => if i < m.length then e i else e0 ((mkMem ars).length + (i - m.length))
  have htr : TrOK e e0 e3 srcs (stsOf (mkMem ars)) (mkMem ars).length m.length 0 := by
    refine ⟨h3.symm, fun i s hi => ?_, fun i s hi => (hin i s hi).1, fun i i' st r hi => (hin i _ hi).2 i' st r rfl, fun i hi => if_pos hi, fun i hi => ?_⟩
    · have := hs i s hi
      rwa [Nat.zero_add] at this
    · show (if trN _ _ i < m.length then _ else _) = _
      unfold trN
      rw [if_neg (by omega)]
      congr 1; omega
  rw [← trSV_den htr hv1]
  refine congrArg Ending.returned (SV.congr (n := m.length) (fun i hi => if_pos hi) ?_)
  -- all its names are the caller's
  have a1 : ∀ x : SA, x.ok (mkMem ars).length = true → x.okT (mkMem ars).length (stsOf (mkMem ars)) = true → (trSA srcs (mkMem ars).length m.length x).ok m.length = true := by
    intro x hx ht
    cases x with
    | ptr i off => have := blt_iff.1 hx; have := Nat.ble_iff.1 ht; omega
    | rp i st r c => have := blt_iff.1 hx; have := Nat.ble_iff.1 ht; omega
    | map i => have := blt_iff.1 hx; have := Nat.ble_iff.1 ht; omega
    | gcl => cases ht
    | clo f caps =>
      cases caps with
      | nil => rfl
      | cons c caps =>
        simp only [SA.ok, SA.okT, List.all_cons, Bool.and_eq_true] at hx ht
        have := blt_iff.1 hx.1; have := Nat.ble_iff.1 ht.1; omega
    | slc i st r len cap =>
      have hi := blt_iff.1 hx
      simp only [trSA, blt_iff.2 hi]
      split
      · rename_i i' st' r' hsrc
        exact blt_iff.2 ((hin i _ hsrc).2 i' st' r' rfl)
      · rfl
    | _ => rfl
  have a2 : ∀ x : SV1, x.ok (mkMem ars).length = true → x.okT (mkMem ars).length (stsOf (mkMem ars)) = true → (trSV1 srcs (mkMem ars).length m.length x).ok m.length = true := by
    intro x hx ht
    cases x with
    | a x => exact a1 x hx ht
    | agg l =>
      simp only [trSV1, SV1.ok, List.all_eq_true, List.mem_map]
      rintro y ⟨x, hxl, rfl⟩
      exact a1 x (List.all_eq_true.1 hx x hxl) (List.all_eq_true.1 ht x hxl)
  cases v0 with
  | one x => exact a2 x hv0 hv1
  | tup l =>
    simp only [trSV, SV.ok, List.all_eq_true, List.mem_map]
    rintro y ⟨x, hxl, rfl⟩
    exact a2 x (List.all_eq_true.1 hv0 x hxl) (List.all_eq_true.1 hv1 x hxl)

end

/-! ### Signatures -/

/-- one argument -/
structure Lens (α : Type) where
  sp : Sp1
  pat : Ar → Option α
  arg : α → Ar
  ok : ∀ a x, pat a = some x → a = arg x

/-- the arguments -/
structure Sig (X : Type) where
  sh : List Sp1
  pat : List Ar → Option X
  arg : X → List Ar
  ok : ∀ l x, pat l = some x → l = arg x

def Lens.int (k : IntKind) : Lens Int where
  sp := .a (.i k)
  pat := fun a => match a with | .a (.i k' n) => (match kindEq k k' with | true => some n | false => none) | _ => none
  arg := fun n => .a (.i k n)
  ok := fun a x h => by
    split at h
    · split at h
      · rename_i hk
        have := kind_eq hk
        subst this
        cases h; rfl
      · cases h
    · cases h
def Lens.bool : Lens Bool where
  sp := .a .b
  pat := fun a => match a with | .a (.b b) => some b | _ => none
  arg := fun b => .a (.b b)
  ok := fun a x h => by split at h <;> cases h; rfl
/-- a slice of whole numbers -/
structure IS where
  len : Nat
  cap : Nat
  N : Nat
  g : Nat → Int
def Lens.ints (k : IntKind) : Lens IS where
  sp := .a (.s [some k])
  pat := fun a => match a with | .a (.s len cap N [.int k' g]) => (match kindEq k k' with | true => some ⟨len, cap, N, g⟩ | false => none) | _ => none
  arg := fun x => .a (.s x.len x.cap x.N [.int k x.g])
  ok := fun a x h => by
    split at h
    · split at h
      · rename_i hk
        have := kind_eq hk
        subst this
        cases h; rfl
      · cases h
    · cases h
/-- a struct of two numbers -/
def Lens.two (k q : IntKind) : Lens (Int × Int) where
  sp := .agg [.i k, .i q]
  pat := fun a => match a with | .agg [.i k' a, .i q' b] => (match kindEq k k', kindEq q q' with | true, true => some (a, b) | _, _ => none) | _ => none
  arg := fun x => .agg [.i k x.1, .i q x.2]
  ok := fun a x h => by
    split at h
    · split at h
      · rename_i hk hq
        have := kind_eq hk
        have := kind_eq hq
        subst_vars
        cases h; rfl
      · cases h
    · cases h

def Sig.s1 {α : Type} (l : Lens α) : Sig α where
  sh := [l.sp]
  pat := fun a => match a with | [a] => l.pat a | _ => none
  arg := fun x => [l.arg x]
  ok := fun a x h => by
    split at h
    · rw [l.ok _ _ h]
    · cases h
def Sig.s2 {α β : Type} (l : Lens α) (r : Lens β) : Sig (α × β) where
  sh := [l.sp, r.sp]
  pat := fun a => match a with | [a, b] => (match l.pat a, r.pat b with | some x, some y => some (x, y) | _, _ => none) | _ => none
  arg := fun x => [l.arg x.1, r.arg x.2]
  ok := fun a x h => by
    split at h
    · split at h
      · rename_i h1 h2
        cases h
        rw [l.ok _ _ h1, r.ok _ _ h2]
      · cases h
    · cases h
def Sig.s3 {α β γ : Type} (l : Lens α) (r : Lens β) (s : Lens γ) : Sig (α × β × γ) where
  sh := [l.sp, r.sp, s.sp]
  pat := fun a => match a with | [a, b, c] => (match l.pat a, r.pat b, s.pat c with | some x, some y, some z => some (x, y, z) | _, _, _ => none) | _ => none
  arg := fun x => [l.arg x.1, r.arg x.2.1, s.arg x.2.2]
  ok := fun a x h => by
    split at h
    · split at h
      · rename_i h1 h2 h3
        cases h
        rw [l.ok _ _ h1, r.ok _ _ h2, s.ok _ _ h3]
      · cases h
    · cases h
def Sig.s4 {α β γ δ : Type} (l : Lens α) (r : Lens β) (s : Lens γ) (t : Lens δ) : Sig (α × β × γ × δ) where
  sh := [l.sp, r.sp, s.sp, t.sp]
  pat := fun a => match a with | [a, b, c, d] => (match l.pat a, r.pat b, s.pat c, t.pat d with | some x, some y, some z, some u => some (x, y, z, u) | _, _, _, _ => none) | _ => none
  arg := fun x => [l.arg x.1, r.arg x.2.1, s.arg x.2.2.1, t.arg x.2.2.2]
  ok := fun a x h => by
    split at h
    · split at h
      · rename_i h1 h2 h3 h4
        cases h
        rw [l.ok _ _ h1, r.ok _ _ h2, s.ok _ _ h3, t.ok _ _ h4]
      · cases h
    · cases h

section
variable {P : Program} {f : FuncId} {fn : Func}

/-- A function that reads, and makes new memory. -/
def newN (h : FnOf P f fn) {X : Type} (sg : Sig X) (cx : X → Cx P) (pre : X → Option Prop) (alts : X → List Alt) (ren : X → SV → Mem → List Nat) (hn0 : ∀ x, (cx x).n0 = (mkMem (sg.arg x)).length)
    (hal : ∀ x, ∀ a ∈ alts x, a.okT (mkMem (sg.arg x)).length (stsOf (mkMem (sg.arg x))))
    (hrun : ∀ x, obp (pre x) → Runs (cx x) fn (mkArgs 0 (sg.arg x)) (mkMem (sg.arg x)) fun v m' => anyAlt (mkMem (sg.arg x)) (ren x v m') v m' (alts x)) : ESpec P where
  f := f
  X := List Src × Mem × X
  inp := fun as m => match rdArgs m sg.sh as, as.all (SV.ok m.length) with
    | some (ars, srcs), true => (match sg.pat ars with | some x => some (srcs, m, x) | none => none)
    | _, _ => none
  pre := fun y => pre y.2.2
  res := fun (srcs, m, x) => (alts x).map (Alt.tr srcs (mkMem (sg.arg x)).length m)
  ent := h.ent
  sound := fun as m y hy hp hok e w0 W w hrel => by
    split at hy
    · rename_i ars srcs hrd hall
      split at hy
      · rename_i x hx
        cases hy
        obtain rfl := sg.ok _ _ hx
        exact new_sound (gs := fun _ _ => []) h.mixed h.at_ (hn0 x) (hrun x hp) (hal x) hrd hall hok e w0 W w hrel
      · cases hy
    · cases hy

/-- .. of which other things are said than are computed (as that some of it is an object) -/
def newG (h : FnOf P f fn) {X : Type} (sg : Sig X) (cx : X → Cx P) (pre : X → Option Prop) (alts : X → List Alt) (gs : X → SV → Mem → List GC) (ren : X → SV → Mem → List Nat) (hn0 : ∀ x, (cx x).n0 = (mkMem (sg.arg x)).length)
    (hal : ∀ x, ∀ a ∈ alts x, a.okT (mkMem (sg.arg x)).length (stsOf (mkMem (sg.arg x))))
    (hrun : ∀ x, obp (pre x) → Runs (cx x) fn (mkArgs 0 (sg.arg x)) (mkMem (sg.arg x)) fun v m' => ghosted (gs x) v m' fun v m' => anyAlt (mkMem (sg.arg x)) (ren x v m') v m' (alts x)) : ESpec P where
  f := f
  X := List Src × Mem × X
  inp := fun as m => match rdArgs m sg.sh as, as.all (SV.ok m.length) with
    | some (ars, srcs), true => (match sg.pat ars with | some x => some (srcs, m, x) | none => none)
    | _, _ => none
  pre := fun y => pre y.2.2
  res := fun (srcs, m, x) => (alts x).map (Alt.tr srcs (mkMem (sg.arg x)).length m)
  ent := h.ent
  sound := fun as m y hy hp hok e w0 W w hrel => by
    split at hy
    · rename_i ars srcs hrd hall
      split at hy
      · rename_i x hx
        cases hy
        obtain rfl := sg.ok _ _ hx
        exact new_sound h.mixed h.at_ (hn0 x) (hrun x hp) (hal x) hrd hall hok e w0 W w hrel
      · cases hy
    · cases hy

/-- A function that reads alone. -/
def readN (h : FnOf P f fn) {X : Type} (sg : Sig X) (cx : X → Cx P) (pre : X → Option Prop) (val : X → SV) (hn0 : ∀ x, (cx x).n0 = (mkMem (sg.arg x)).length)
    (hok : ∀ x, (val x).ok (mkMem (sg.arg x)).length = true) (hokT : ∀ x, (val x).okT (mkMem (sg.arg x)).length (stsOf (mkMem (sg.arg x))) = true)
    (hrun : ∀ x, obp (pre x) → Runs (cx x) fn (mkArgs 0 (sg.arg x)) (mkMem (sg.arg x)) fun v _ => isRes (val x) v) : PSpec P where
  f := f
  X := List Src × Mem × X
  inp := fun as m => match rdArgs m sg.sh as, as.all (SV.ok m.length) with
    | some (ars, srcs), true => (match sg.pat ars with | some x => some (srcs, m, x) | none => none)
    | _, _ => none
  pre := fun y => pre y.2.2
  res := fun (srcs, m, x) => trSV srcs (mkMem (sg.arg x)).length m.length (val x)
  sound := fun as m y hy hp e w0 W w hrel => .inl ⟨h.ent _ _, by
    split at hy
    · rename_i ars srcs hrd hall
      split at hy
      · rename_i x hx
        cases hy
        obtain rfl := sg.ok _ _ hx
        exact readN_sound h.mixed h.at_ (hn0 x) (hrun x hp) (hok x) (hokT x) hrd hall e w0 W w hrel
      · cases hy
    · cases hy⟩

end
/-! ### Handy -/
theorem alt_one {m0 : Mem} {ρ : List Nat} {v : SV} {m : Mem} {v2 : SV} {m2 : Mem} (h : altOne m0 ρ v m v2 m2) : anyAlt m0 ρ v m [.one v2 m2] := h
theorem alt_fam {m0 : Mem} {ρ : List Nat} {v : SV} {m : Mem} {α : Type} {p : α → Prop} {v2 : α → SV} {m2 : α → Mem} (y : α) (hp : p y) (h : altOne m0 ρ v m (v2 y) (m2 y)) : anyAlt m0 ρ v m [.fam α p v2 m2] := ⟨y, hp, h⟩
def SA.ix : SA → Nat
  | .slc i _ _ _ _ => i
  | .ptr i _ => i
  | _ => 0
def SV.ix : SV → Nat
  | .one (.a x) => x.ix
  | _ => 0
def SV.ixAt (j : Nat) : SV → Nat
  | .one (.agg l) => (match l[j]? with | some x => x.ix | none => 0)
  | .tup l => (match l[j]? with | some (.a x) => x.ix | _ => 0)
  | _ => 0
def St.ix (S : St) (t : Nat) : Nat := match S.t.get t with | some v => v.ix | none => 0
def St.ixAt (S : St) (t j : Nat) : Nat := match S.t.get t with | some v => v.ixAt j | none => 0
theorem w64' {n : Int} (h1 : -9223372036854775808 ≤ n) (h2 : n ≤ 9223372036854775807) : IntKind.i64.wrap n = n := w64 ⟨h1, h2⟩
theorem wu64' {n : Int} (h1 : 0 ≤ n) (h2 : n < 18446744073709551616) : IntKind.u64.wrap n = n := by rw [wu64]; omega
theorem tdiv_pos {a b : Int} (ha : 0 ≤ a) : a.tdiv b = a / b := Int.tdiv_eq_ediv_of_nonneg ha
theorem tmod_pos {a b : Int} (ha : 0 ≤ a) : a.tmod b = a % b := Int.tmod_eq_emod_of_nonneg ha

theorem fdiv_nn {a b : Int} (hb : 0 ≤ b) : a.fdiv b = a / b := Int.fdiv_eq_ediv_of_nonneg a hb
theorem wu8 (n : Int) : IntKind.u8.wrap n = n % 256 := by simp [IntKind.wrap, IntKind.signed, IntKind.bits]
theorem wu32 (n : Int) : IntKind.u32.wrap n = n % 4294967296 := by simp [IntKind.wrap, IntKind.signed, IntKind.bits]
theorem wu16 (n : Int) : IntKind.u16.wrap n = n % 65536 := by simp [IntKind.wrap, IntKind.signed, IntKind.bits]

end Go.Sx

/-
  Part 19: arguments that come in: structs that hold slices.
-/
namespace Go.Sx
open Go.RowKit Go.WideShapes Go.ChangeShapes Go.Deep

def mixOf (P : Program) (d : Nat) (t : TypeId) : Option (List Sh) :=
  match P.underlying t with
  | some (.slice el) => (match rowOf P d el with | some row => (match Nat.beq (P.cellsOf el) row.length with | true => some [.sl row] | false => none) | none => none)
  | _ => (match rowOf P d t with | some l => some (l.map .num) | none => none)
def mixFields (P : Program) (d : Nat) : List Field → Nat → Option (List Sh)
  | [], _ => some []
  | x :: l, off => (match Nat.beq x.offset off, mixOf P d x.type with
    | true, some s => (match Nat.beq (P.cellsOf x.type) s.length, mixFields P d l (off + s.length) with | true, some r => some (s ++ r) | _, _ => none)
    | _, _ => none)

def CellIs (w : World) (v : Value) : Sh → Prop
  | .num k => NumIs v k
  | .sl row => ∃ A n cap, Slc w v row A n cap

section
variable {P : Program} {H : Type} {enc : TypeId × Value → H} {w : World} {base : Nat} {spare : Nat → Bool} {held : Bool}

theorem slice_cells {t el : TypeId} {row : List RK} {d : Nat} (ht : P.underlying t = some (.slice el)) (hrow : rowOf P d el = some row) (hcl : P.cellsOf el = row.length) {fuel : Nat} {cs : List Value} {x : DataW H × List MemPlace}
    (hf : DataW.trod enc P w base spare held fuel t cs = some x) : ∃ v A n cap, cs = [v] ∧ Slc w v row A n cap := by
  rcases open_slice ht hf with ⟨h0, _⟩ | ⟨a, len, cap', m, n', D', Pl, h0, hb, hl, hm, hmm, _, hi⟩
  · refine ⟨_, none, 0, 0, h0, rfl, Nat.le_refl _, by omega, fun e => ⟨fun j v hv => ?_, fun es k hk => by cases hk⟩, fun c k _ r hr => by omega⟩
    simp [Con.cell] at hv
  · have hlm : len ≤ m := by rw [hmm]; split <;> omega
    have hcell : ∀ r, r < len → ∀ (c : Nat) (k : RK), row[c]? = some k → ∃ u, w.cell? (a.add (r * row.length + c)) = some u ∧ NumIs u k := by
      intro r hr c k hk
      obtain ⟨cs', hc, ht'⟩ := hi r (by omega)
      obtain ⟨_, hcl', hat⟩ := World.cells?_some hc
      obtain ⟨h1, h2⟩ := row_open d hrow ht'
      obtain ⟨u, hu, hn⟩ := h2 c k hk
      have hcr : c < row.length := (List.getElem?_eq_some_iff.1 hk).1
      have h3 := hat c (by omega)
      rw [add_add, hcl, hu] at h3
      exact ⟨u, h3, hn⟩
    refine ⟨_, some a, len, cap', h0, rfl, hl, by unfold maxLen at hm; omega, fun e => ⟨fun j v hv => ?_, fun es k hk => by cases hk⟩, fun c k hk r hr => ?_⟩
    · simp only [Con.cell, colsC_len] at hv
      split at hv
      · rename_i hlt
        rw [colsC_get, Nat.zero_add] at hv
        cases hk : row[j % row.length]? with
        | none => rw [hk] at hv; cases hv
        | some k =>
          rw [hk] at hv
          cases hv
          obtain ⟨u, hu, hn⟩ := hcell _ hlt _ k hk
          have hj : j / row.length * row.length + j % row.length = j := by rw [Nat.mul_comm]; exact Nat.div_add_mod j row.length
          refine ⟨a, rfl, ?_, fun h => by cases h⟩
          rw [← hj, hu, hj]
          congr 1
          cases k with
          | some k =>
            obtain ⟨z, rfl, _⟩ := hn
            simp only [colC, Col.at_, intC, hu]
          | none =>
            obtain ⟨z, rfl⟩ := hn
            simp only [colC, Col.at_, boolC, hu]
      · cases hv
    · obtain ⟨u, hu, z, rfl, hw⟩ := hcell r hr c (some k) hk
      simp only [intC, hu]; exact hw

theorem mix_open {d : Nat} {t : TypeId} {ss : List Sh} (h : mixOf P d t = some ss) {fuel : Nat} {cs : List Value} {x : DataW H × List MemPlace} (hx : DataW.trod enc P w base spare held fuel t cs = some x) :
    cs.length = ss.length ∧ ∀ (j : Nat) (k : Sh), ss[j]? = some k → ∃ v, cs[j]? = some v ∧ CellIs w v k := by
  unfold mixOf at h
  split at h
  · rename_i el hd
    split at h
    · rename_i row hrow
      split at h
      · rename_i hcl
        cases h
        obtain ⟨v, A, n, cap, rfl, hs⟩ := slice_cells hd hrow (Nat.beq_iff.1 hcl) hx
        refine ⟨rfl, fun j k hj => ?_⟩
        cases j with
        | zero => simp at hj; subst hj; exact ⟨v, rfl, A, n, cap, hs⟩
        | succ j => simp at hj
      · cases h
    · cases h
  · split at h
    · rename_i l hl
      cases h
      obtain ⟨h1, h2⟩ := row_open d hl hx
      refine ⟨by simp [h1], fun j k hj => ?_⟩
      rw [List.getElem?_map] at hj
      cases hlj : l[j]? with
      | none => rw [hlj] at hj; cases hj
      | some k' =>
        rw [hlj] at hj
        cases hj
        exact h2 j k' hlj
    · cases h

/-- A struct of numbers, bools and slices by value. -/
theorem mix_agg {t : TypeId} {fs : Array Field} {d : Nat} {ss : List Sh} (hd : P.underlying t = some (.struct fs)) (hss : mixFields P d fs.toList 0 = some ss) (hlen : P.cellsOf t = ss.length) {v : Value} {r : Reach} {b0 : Nat} (hv : Value.okWide P w r b0 t v)
    {D : DataW H} {p : List MemPlace} (h : DataW.Trod enc P w base spare held t v D p) : ∃ cs : List Value, v = .agg cs.toArray ∧ cs.length = ss.length ∧ ∀ (j : Nat) (k : Sh), ss[j]? = some k → ∃ u, cs[j]? = some u ∧ CellIs w u k := by
  obtain ⟨cs, hcs, _⟩ := okWide_struct hd hv
  subst hcs
  obtain ⟨fuel, hf⟩ := h
  obtain ⟨xs, n, _, _, hl, hxl, hfs⟩ := DataW.trod_struct hd hf
  refine ⟨cs.toList, by simp, by rw [← hlen]; exact hl, ?_⟩
  have key : ∀ (fl : List Field) (off : Nat) (l : List Sh), mixFields P d fl off = some l → (∀ f ∈ fl, ∃ y, DataW.trod enc P w base spare held n f.type ((cs.toList.drop f.offset).take (P.cellsOf f.type)) = some y) →
      ∀ (j : Nat) (k : Sh), l[j]? = some k → ∃ v, cs.toList[off + j]? = some v ∧ CellIs w v k := by
    intro fl
    induction fl with
    | nil => intro off l hl _ j k hj; cases hl; simp at hj
    | cons f fl ih =>
      intro off l hl hfs j k hj
      simp only [mixFields] at hl
      split at hl
      · rename_i s ho hs
        split at hl
        · rename_i r hc hr
          cases hl
          have ho := Nat.beq_iff.1 ho
          have hc := Nat.beq_iff.1 hc
          obtain ⟨y, hy⟩ := hfs f List.mem_cons_self
          obtain ⟨h1, h2⟩ := mix_open hs hy
          rw [List.getElem?_append] at hj
          by_cases hjs : j < s.length
          · rw [if_pos hjs] at hj
            obtain ⟨v, hv, hn⟩ := h2 j k hj
            rw [List.getElem?_take, if_pos (by omega), List.getElem?_drop, ho] at hv
            exact ⟨v, hv, hn⟩
          · rw [if_neg hjs] at hj
            obtain ⟨v, hv, hn⟩ := ih _ _ hr (fun g hg => hfs g (List.mem_cons_of_mem _ hg)) _ k hj
            exact ⟨v, by rw [← hv]; congr 1; omega, hn⟩
        · cases hl
      · cases hl
  intro j k hj
  have := key fs.toList 0 _ hss (fun f hf' => by
    obtain ⟨i, hi, rfl⟩ := List.getElem_of_mem hf'
    have hi' : i < fs.size := by simpa using hi
    have h3 := hfs i fs[i] (Array.getElem?_eq_getElem hi')
    exact ⟨xs[i]'(by omega), by rw [show fs.toList[i] = fs[i] by simp]; exact h3.trans (List.getElem?_eq_getElem (by omega))⟩) j k hj
  rwa [Nat.zero_add] at this

end

def ListMix (w : World) : List Value → List Sh → Prop
  | [], [] => True
  | v :: vs, k :: ks => CellIs w v k ∧ ListMix w vs ks
  | _, _ => False
theorem listMix_of {w : World} : ∀ {cs : List Value} {ks : List Sh}, cs.length = ks.length → (∀ (j : Nat) (k : Sh), ks[j]? = some k → ∃ u, cs[j]? = some u ∧ CellIs w u k) → ListMix w cs ks
  | [], [], _, _ => trivial
  | v :: vs, k :: ks, hl, h => by
    obtain ⟨u, hu, hn⟩ := h 0 k rfl
    cases hu
    exact ⟨hn, listMix_of (by simpa using hl) fun j k' hk => h (j + 1) k' hk⟩
  | [], _ :: _, hl, _ => by simp at hl
  | _ :: _, [], hl, _ => by simp at hl
theorem listMix_cons {w : World} {cs : List Value} {k : Sh} {ks : List Sh} (h : ListMix w cs (k :: ks)) : ∃ v vs, cs = v :: vs ∧ CellIs w v k ∧ ListMix w vs ks := by
  cases cs with
  | nil => exact h.elim
  | cons v vs => exact ⟨v, vs, rfl, h.1, h.2⟩
theorem listMix_nil {w : World} {cs : List Value} (h : ListMix w cs []) : cs = [] := by
  cases cs with
  | nil => rfl
  | cons v vs => exact h.elim

/-! memory that comes in -/
theorem den_slc {e : Env} {i st n c : Nat} {A : Option Addr} (h : e i = A) : SA.den e (.slc i st 0 n c) = .slice A n c := by
  subst h
  cases he : e i <;> simp [SA.den, at_, he, Addr.add_zero']
/-- names for what comes in -/
def envOf (l : List (Option Addr)) : Env := fun i => l.getD i none
theorem rel_in1 {w : World} {A : Option Addr} {n : Nat} {cols : List Col} (h : ∀ e, RegOK e w A ⟨false, .tab n cols⟩) : Rel (envOf [A]) w (fun _ => False) [some ⟨false, .tab n cols⟩] w := rel_ro (fun i r hr => by
  cases i with
  | zero => cases hr; exact ⟨rfl, h _⟩
  | succ i => simp at hr) (.none fun i t x I => plainB_ok rfl i false t x I)
theorem rel_in2 {w : World} {A B : Option Addr} {n m : Nat} {cols dols : List Col} (h : ∀ e, RegOK e w A ⟨false, .tab n cols⟩) (h2 : ∀ e, RegOK e w B ⟨false, .tab m dols⟩) : Rel (envOf [A, B]) w (fun _ => False) [some ⟨false, .tab n cols⟩, some ⟨false, .tab m dols⟩] w := rel_ro (fun i r hr => by
  cases i with
  | zero => cases hr; exact ⟨rfl, h _⟩
  | succ i =>
    cases i with
    | zero => cases hr; exact ⟨rfl, h2 _⟩
    | succ i => simp at hr) (.none fun i t x I => plainB_ok rfl i false t x I)

/-- .. and slices that stand in it -/
theorem rel_in2o {w : World} {A B : Option Addr} {n m : Nat} {cols dols : List Col} {Q : Value → Prop} {cs : Value → List Col} (h : ∀ e, RegOK e w A ⟨false, .tab n cols⟩) (h2 : ∀ e, RegOK e w B ⟨false, .tab m dols⟩)
    (hQ : ∀ v, Q v → ∃ A' n k, v = .slice A' n k ∧ ∀ e, RegOK e w A' ⟨false, .tab n (cs v)⟩) :
    Rel (envOf [A, B, some default]) w (fun _ => False) [some ⟨false, .tab n cols⟩, some ⟨false, .tab m dols⟩, some ⟨false, .obj 0 {} (openI Q cs)⟩] w := rel_ro (fun i r hr => by
  cases i with
  | zero => cases hr; exact ⟨rfl, h _⟩
  | succ i =>
    cases i with
    | zero => cases hr; exact ⟨rfl, h2 _⟩
    | succ i =>
      cases i with
      | zero => cases hr; exact ⟨rfl, fun j v hv => (by cases hv), fun es k hm => (by cases hm)⟩
      | succ i => simp at hr) (fun i t x I hi => by
  cases i with
  | zero => cases hi
  | succ i =>
    cases i with
    | zero => cases hi
    | succ i =>
      cases i with
      | zero =>
        cases hi
        refine ⟨fun b => ∃ v a, Q v ∧ slA v = some a ∧ (Con.tab (slN v) (cs v)).some_ ∧ a.block = b, ⟨⟨_, rfl⟩, ?_, fun v hv => ?_⟩, fun _ _ hh => hh⟩
        · rintro b ⟨v, a, hv, ha, hs, rfl⟩
          obtain ⟨A', n, k, rfl, hr⟩ := hQ v hv
          have ha : A' = some a := ha
          subst ha
          exact (hr (fun _ => none)).lt hs
        · obtain ⟨A', n, k, hvv, hr⟩ := hQ v hv
          refine ⟨A', n, k, hvv, hr, fun a ha hs => ⟨v, a, hv, by rw [hvv]; exact ha, by rw [hvv] at hs ⊢; exact hs, rfl⟩⟩
      | succ i => simp at hi)

end Go.Sx

/-
  Part 20: contracts of methods of objects that lie in several blocks.
-/
namespace Go.Sx
open Go.RowKit

/-- one way in which a method may end: its answer, and what the object is then -/
inductive OAlt where
  | one (v : SV) (x : Pay)
  | cond (p : Prop) (v : SV) (x : Pay)
  | fam (α : Type) (p : α → Prop) (v : α → SV) (x : α → Pay)

def OAlt.holds (Q : SV → Pay → Prop) : OAlt → Prop
  | .one v x => Q v x
  | .cond p v x => p ∧ Q v x
  | .fam _ p v x => ∃ y, p y ∧ Q (v y) (x y)
def OAlt.lift (m : Mem) (i t : Nat) (K : ObK) : OAlt → Alt
  | .one v x => .one v (m.set i (some ⟨true, .obj t x (boxI K)⟩))
  | .cond p v x => .cond p v (m.set i (some ⟨true, .obj t x (boxI K)⟩))
  | .fam α p v x => .fam α p v fun y => m.set i (some ⟨true, .obj t (x y) (boxI K)⟩)

def oOne (K : ObK) (ρ : List Nat) (v : SV) (m : Mem) (v2 : SV) (x2 : Pay) : Prop :=
  ∃ hd : K.Hid, K.inv x2 hd ∧ match idB 1 0 ρ, Nat.ble (K.mem x2 hd).length ρ.length, nodupB ρ, v2.ok 0, app2 (eqSV v2 v) (subMem ρ m 0 (K.mem x2 hd)) with
    | true, true, true, true, some l => allP l True
    | _, _, _, _, _ => False
def isO (K : ObK) (ρ : List Nat) (v : SV) (m : Mem) : OAlt → Prop
  | .one v2 x2 => oOne K ρ v m v2 x2
  | .cond p v2 x2 => p ∧ oOne K ρ v m v2 x2
  | .fam _ p v2 x2 => ∃ y, p y ∧ oOne K ρ v m (v2 y) (x2 y)
def anyO (K : ObK) (ρ : List Nat) (v : SV) (m : Mem) : List OAlt → Prop
  | [] => False
  | [a] => isO K ρ v m a
  | a :: l => isO K ρ v m a ∨ anyO K ρ v m l
theorem anyO_mem {K : ObK} {ρ : List Nat} {v : SV} {m : Mem} : ∀ {l : List OAlt}, anyO K ρ v m l → ∃ a ∈ l, isO K ρ v m a
  | [a], h => ⟨a, List.mem_cons_self, h⟩
  | a :: b :: l, h => by
    rcases h with h | h
    · exact ⟨a, List.mem_cons_self, h⟩
    · obtain ⟨c, hc, h2⟩ := anyO_mem h
      exact ⟨c, List.mem_cons_of_mem _ hc, h2⟩
theorem isO_holds {K : ObK} {ρ : List Nat} {v : SV} {m : Mem} {Q : SV → Pay → Prop} (hQ : ∀ v2 x2, oOne K ρ v m v2 x2 → Q v2 x2) {a : OAlt} (h : isO K ρ v m a) : a.holds Q := by
  cases a with
  | one v2 x2 => exact hQ _ _ h
  | cond p v2 x2 => exact ⟨h.1, hQ _ _ h.2⟩
  | fam α p v2 x2 => obtain ⟨y, h1, h2⟩ := h; exact ⟨y, h1, hQ _ _ h2⟩

section
variable {P : Program} {e : Env} {w0 : World} {W : Nat → Prop} {m : Mem} {w : World}

theorem obj_core (hm : P.follows .mixedOrders = true) {f : FuncId} {fn : Func} (hfn : P.funcs[f]? = some fn) {K : ObK} {cx : K.Hid → Cx P} (hn0 : ∀ hd, (cx hd).n0 = 1) {args0 : List SV} (hargs : args0.all (SV.ok 0) = true) {x : Pay} {al : List OAlt} {gs : SV → Mem → List GC} {ren : SV → Mem → List Nat}
    (h : ∀ hd, K.inv x hd → Runs (cx hd) fn (.one (.a (.ptr 0 0)) :: args0) (K.mem x hd) fun v m' => ghosted gs v m' fun v m' => anyO K (ren v m') v m' al) {i t : Nat} (hi : m[i]? = some (some ⟨true, .obj t x (boxI K)⟩)) {args : List SV}
    (e : Env) (ha : args.map (SV.den e) = args0.map (SV.den e)) (w0 : World) (W : Nat → Prop) (w : World) (hrel : Rel e w0 W m w) :
    Calls P f ((SV.one (.a (.ptr i 0)) :: args).map (SV.den e)).toArray w fun r w' => ∃ a ∈ al, a.holds fun v2 x2 => r = .returned (v2.den e) ∧ Rel e w0 W (m.set i (some ⟨true, .obj t x2 (boxI K)⟩)) w' := by
  obtain ⟨F, hF⟩ := hrel.obj
  have hO : IsO m i x (boxI K) := ⟨t, hi⟩
  have hil := hO.lt
  obtain ⟨hd, e1, hinv, h0, hr1, hlt⟩ := hF.ok hO
  obtain ⟨c0, l0, hh⟩ := K.head x hd
  have hlen : 1 ≤ (K.mem x hd).length := (List.getElem?_eq_some_iff.1 hh).1
  have hden : (SV.one (.a (.ptr i 0)) :: args).map (SV.den e) = (SV.one (.a (.ptr 0 0)) :: args0).map (SV.den e1) := by
    rw [List.map_cons, List.map_cons, ha]
    have h1 : SV.den e (.one (.a (.ptr i 0))) = SV.den e1 (.one (.a (.ptr 0 0))) := by simp only [SV.den, SV1.den, SA.den, at_, h0]
    rw [h1]
    exact congrArg _ (List.map_congr_left fun y hy => SV.congr (n := 0) (fun i hi => absurd hi (Nat.not_lt_zero i)) (List.all_eq_true.1 hargs y hy))
  rw [hden]
  refine (runs_ghosted hm hfn (h hd hinv) hr1 (by rw [hn0]; exact hlen)).mono fun r w' ⟨v, m', e', g1, g2, g3, g4⟩ => ?_
  obtain ⟨a, hal, hia⟩ := anyO_mem g1
  refine ⟨a, hal, isO_holds (fun v2 x2 hone => ?_) hia⟩
  obtain ⟨hd2, hinv2, hone⟩ := hone
  split at hone
  · rename_i l h2 h3 h4 h5 h6
    have h3 := Nat.ble_iff.1 h3
    obtain ⟨la, lb, h7, h8, rfl⟩ := app2_some h6
    obtain ⟨h9, h10⟩ := holds_app (allP_iff.1 hone).1
    have hr2 := g3.sub h8 h10 h3 h4
    obtain ⟨G, hG⟩ := hr2.obj
    have hown := hr2.own hG (K.rw x2 hd2)
    have hF2 : ∀ {b}, footB (renE e' (ren v m')) G (K.mem x2 hd2) b → F i b ∨ w.heap.size ≤ b := by
      rintro b (⟨j, rj, aj, hj, hs, haj, rfl⟩ | ⟨j, y, J, hj, hb⟩)
      · exact hr2.wr j rj aj hj (K.rw x2 hd2 j rj hj) hs haj
      · exact hG.wr hj hb
    have hF2lt : ∀ {b}, footB (renE e' (ren v m')) G (K.mem x2 hd2) b → b < w'.heap.size := fun hb => footB_lt hr2 hG hb
    have hhead : renE e' (ren v m') 0 = e i := by
      have := idB_ok h2 0 (by omega)
      show e' (rn _ 0) = _
      rw [show rn (ren v m') 0 = 0 by simp only [rn, List.getD, this, Option.getD_some], g4 0 (by rw [hn0]; omega), h0]
    have hget : ∀ {j r}, (m.set i (some ⟨true, .obj t x2 (boxI K)⟩))[j]? = some (some r) → r.con.some_ → j ≠ i ∧ m[j]? = some (some r) := by
      intro j r hj hs
      by_cases hij : i = j
      · subst hij
        rw [List.getElem?_set_self hil] at hj
        cases hj
        exact hs.elim
      · rw [List.getElem?_set_ne hij] at hj
        exact ⟨Ne.symm hij, hj⟩
    have hIO : ∀ {j y J}, IsO (m.set i (some ⟨true, .obj t x2 (boxI K)⟩)) j y J → (j = i ∧ y = x2 ∧ J = boxI K) ∨ (j ≠ i ∧ IsO m j y J) := by
      rintro j y J ⟨t', hj⟩
      by_cases hij : i = j
      · subst hij
        rw [List.getElem?_set_self hil] at hj
        cases hj
        exact .inl ⟨rfl, rfl, rfl⟩
      · rw [List.getElem?_set_ne hij] at hj
        exact .inr ⟨Ne.symm hij, t', hj⟩
    refine ⟨?_, ⟨g3.fr.os.trans hrel.fr.os, g3.fr.tape.trans hrel.fr.tape, g3.fr.output.trans hrel.fr.output, Nat.le_trans hrel.fr.size g3.fr.size, fun b hb hW => ?_⟩, fun j r hj => ?_, fun q j rq rj a b hqj hq hj hrw hsq hsj ha hb => ?_, fun q r a hq hrw hsq ha => ?_,
      ⟨fun j b => if j = i then footB (renE e' (ren v m')) G (K.mem x2 hd2) b else F j b, fun {j y J} hj => ?_, fun {q j y z I J b} hqj hq hj hb hb2 => ?_, fun {q j y I r a} hq hj hs ha hb => ?_, fun {q y I b} hq hb => ?_⟩, hrel.ro.set i fun t x I hh => by cases hh⟩
    · rw [g2, ← eqSV_den (e := e') h7 h9]
      exact congrArg Ending.returned (SV.congr (n := 0) (fun i hi => absurd hi (Nat.not_lt_zero i)) h5)
    · have hsz := hrel.fr.size
      rw [g3.fr.block b (by omega) fun hFb => ?_]
      · exact hrel.fr.block b hb hW
      · rcases hF.wr hO hFb with h11 | h11
        · exact hW h11
        · omega
    · by_cases hij : i = j
      · subst hij
        rw [List.getElem?_set_self hil] at hj
        cases hj
        exact ⟨fun j v hv => (by cases hv), fun es k hm => (by cases hm)⟩
      · rw [List.getElem?_set_ne hij] at hj
        have hR := hrel.reg j r hj
        refine hR.keep fun a ha hs => g3.fr.block _ ?_ fun hFb => hF.off hO hj hs ha hFb
        rw [ha] at hR
        exact hR.lt hs
    · obtain ⟨_, h11⟩ := hget hq hsq
      obtain ⟨_, h12⟩ := hget hj hsj
      exact hrel.sep q j rq rj a b hqj h11 h12 hrw hsq hsj ha hb
    · obtain ⟨_, h11⟩ := hget hq hsq
      exact hrel.wr q r a h11 hrw hsq ha
    · rcases hIO hj with ⟨rfl, rfl, rfl⟩ | ⟨h11, h12⟩
      · simp only [if_pos]
        exact ⟨hd2, _, hinv2, hhead, hown, fun b hb => hF2lt hb⟩
      · simp only [if_neg h11]
        exact J.frame (hF.ok h12) g3.fr.size fun b hb => g3.fr.block b (J.lt (hF.ok h12) b hb) fun hFb => hF.apart h11 h12 hO hb hFb
    · rcases hIO hq with ⟨rfl, rfl, rfl⟩ | ⟨h11, h12⟩ <;> rcases hIO hj with ⟨rfl, rfl, rfl⟩ | ⟨h13, h14⟩
      · exact hqj rfl
      · rw [if_pos rfl] at hb
        rw [if_neg h13] at hb2
        rcases hF2 hb with h15 | h15
        · exact hF.apart hqj hO h14 h15 hb2
        · have := J.lt (hF.ok h14) b hb2
          omega
      · rw [if_neg h11] at hb
        rw [if_pos rfl] at hb2
        rcases hF2 hb2 with h15 | h15
        · exact hF.apart hqj h12 hO hb h15
        · have := I.lt (hF.ok h12) b hb
          omega
      · rw [if_neg h11] at hb
        rw [if_neg h13] at hb2
        exact hF.apart hqj h12 h14 hb hb2
    · obtain ⟨_, h16⟩ := hget hj hs
      rcases hIO hq with ⟨rfl, rfl, rfl⟩ | ⟨h11, h12⟩
      · rw [if_pos rfl] at hb
        rcases hF2 hb with h15 | h15
        · exact hF.off hO h16 hs ha h15
        · have hR := hrel.reg j r h16
          rw [ha] at hR
          have := hR.lt hs
          omega
      · rw [if_neg h11] at hb
        exact hF.off h12 h16 hs ha hb
    · rcases hIO hq with ⟨rfl, rfl, rfl⟩ | ⟨h11, h12⟩
      · rw [if_pos rfl] at hb
        rcases hF2 hb with h15 | h15
        · exact hF.wr hO h15
        · have := hrel.fr.size
          right; omega
      · rw [if_neg h11] at hb
        exact hF.wr h12 hb
  · exact hone.elim

/-- the arguments behind the first, and the object -/
def rdObj {X Y : Type} (t : Nat) (sg : Sig Y) (rdP : Pay → Option X) (as : List SV) (m : Mem) : Option (Nat × Mem × ObjI × X × Y) :=
  match as with
  | .one (.a (.ptr i 0)) :: as => (match m[i]? with
    | some (some ⟨true, .obj t' p I⟩) => (match Nat.beq t t', rdP p, rdArgs m sg.sh as with
      | true, some x, some (ars, []) => (match sg.pat ars with | some y => some (i, m, I, x, y) | none => none)
      | _, _, _ => none)
    | _ => none)
  | _ => none

theorem rdObj_ok {X Y : Type} {t : Nat} {sg : Sig Y} {rdP : Pay → Option X} {mkP : X → Pay} (hP : ∀ p x, rdP p = some x → p = mkP x) {as : List SV} {m : Mem} {i : Nat} {m1 : Mem} {I : ObjI} {x : X} {y : Y} (h : rdObj t sg rdP as m = some (i, m1, I, x, y)) {e : Env} {w0 : World} {W : Nat → Prop} {w : World} (hrel : Rel e w0 W m w) :
    m1 = m ∧ m[i]? = some (some ⟨true, .obj t (mkP x) I⟩) ∧ ∃ bs, as = .one (.a (.ptr i 0)) :: bs ∧ bs.map (SV.den e) = (mkArgs 0 (sg.arg y)).map (SV.den e) := by
  unfold rdObj at h
  split at h
  · rename_i i' bs
    split at h
    · rename_i t' p I' hi
      split at h
      · rename_i x' ars ht hx hr
        split at h
        · rename_i y' hy
          cases h
          have ht := Nat.beq_iff.1 ht
          subst ht
          obtain rfl := hP _ _ hx
          obtain rfl := sg.ok _ _ hy
          exact ⟨rfl, hi, bs, rfl, (rdArgs_ok (e0 := e) hrel hr (fun q s hq => by simp at hq)).1⟩
        · cases h
      · cases h
    · cases h
  · cases h

/-- A method of an object. -/
def obN {f : FuncId} {fn : Func} (h : FnOf P f fn) (t : Nat) (K : ObK) {X Y : Type} (sg : Sig Y) (rdP : Pay → Option X) (mkP : X → Pay) (hP : ∀ p x, rdP p = some x → p = mkP x) (hz : ∀ y, (mkArgs 0 (sg.arg y)).all (SV.ok 0) = true) (cx : X → Y → K.Hid → Cx P) (pre : X → Y → Prop) (alts : X → Y → List OAlt)
    (gs : SV → Mem → List GC) (ren : SV → Mem → List Nat) (hn0 : ∀ x y hd, (cx x y hd).n0 = 1)
    (hrun : ∀ x y, pre x y → ∀ hd, K.inv (mkP x) hd → Runs (cx x y hd) fn (.one (.a (.ptr 0 0)) :: mkArgs 0 (sg.arg y)) (K.mem (mkP x) hd) fun v m' => ghosted gs v m' fun v m' => anyO K (ren v m') v m' (alts x y)) : ESpec P where
  f := f
  X := Nat × Mem × ObjI × X × Y
  inp := fun as m => rdObj t sg rdP as m
  pre := fun (_, _, I, x, y) => some (I = boxI K ∧ pre x y)
  res := fun (i, m, _, x, y) => (alts x y).map (OAlt.lift m i t K)
  ent := h.ent
  sound := fun as m ⟨i, m1, I, x, y⟩ hy hp hok e w0 W w hrel => by
    obtain ⟨hI, hp⟩ := hp
    subst hI
    obtain ⟨rfl, hi, bs, rfl, hb⟩ := rdObj_ok hP hy hrel
    refine (obj_core h.mixed h.at_ (hn0 x y) (hz y) (hrun x y hp) hi e hb w0 W w hrel).mono fun r w' ⟨a, ha, hh⟩ => ⟨a.lift m1 i t K, List.mem_map_of_mem ha, ?_⟩
    cases a with
    | one v2 x2 => exact ⟨e, fun _ _ => rfl, hh.1, hh.2⟩
    | cond p v2 x2 => exact ⟨hh.1, e, fun _ _ => rfl, hh.2.1, hh.2.2⟩
    | fam α p v2 x2 => obtain ⟨z, h1, h2, h3⟩ := hh; exact ⟨z, h1, e, fun _ _ => rfl, h2, h3⟩

/-- A method that leaves its object as it was. -/
def obP {f : FuncId} {fn : Func} (h : FnOf P f fn) (t : Nat) (K : ObK) {X Y : Type} (sg : Sig Y) (rdP : Pay → Option X) (mkP : X → Pay) (hP : ∀ p x, rdP p = some x → p = mkP x) (hz : ∀ y, (mkArgs 0 (sg.arg y)).all (SV.ok 0) = true) (cx : X → Y → K.Hid → Cx P) (pre : X → Y → Prop) (val : X → Y → SV)
    (gs : SV → Mem → List GC) (ren : SV → Mem → List Nat) (hn0 : ∀ x y hd, (cx x y hd).n0 = 1)
    (hrun : ∀ x y, pre x y → ∀ hd, K.inv (mkP x) hd → Runs (cx x y hd) fn (.one (.a (.ptr 0 0)) :: mkArgs 0 (sg.arg y)) (K.mem (mkP x) hd) fun v m' => ghosted gs v m' fun v m' => anyO K (ren v m') v m' [.one (val x y) (mkP x)]) : PSpec P where
  f := f
  X := Nat × Mem × ObjI × X × Y
  inp := fun as m => rdObj t sg rdP as m
  pre := fun (_, _, I, x, y) => some (I = boxI K ∧ pre x y)
  res := fun (_, _, _, x, y) => val x y
  sound := fun as m ⟨i, m1, I, x, y⟩ hy hp e w0 W w hrel => .inl ⟨h.ent _ _, by
    obtain ⟨hI, hp⟩ := hp
    subst hI
    obtain ⟨rfl, hi, bs, rfl, hb⟩ := rdObj_ok hP hy hrel
    refine (obj_core h.mixed h.at_ (hn0 x y) (hz y) (hrun x y hp) hi e hb w0 W w hrel).mono fun r w' ⟨a, ha, hh⟩ => ?_
    rw [List.mem_singleton.1 ha] at hh
    refine ⟨hh.1, ?_⟩
    have h2 := hh.2
    have : m1.set i (some ⟨true, .obj t (mkP x) (boxI K)⟩) = m1 := by
      apply List.ext_getElem?
      intro j
      by_cases hij : i = j
      · subst hij
        rw [List.getElem?_set_self (List.getElem?_eq_some_iff.1 hi).1, hi]
      · rw [List.getElem?_set_ne hij]
    rw [this] at h2
    exact h2⟩

end
end Go.Sx

/-
  Part 20: maps as objects: lists of entries, in the order in which they were laid.
-/
namespace Go.Sx
open Go.RowKit

section
variable {P : Program} {e e' : Env} {w0 : World} {W : Nat → Prop} {m : Mem} {w : World}

/-- an object is put in the place of a region of which nothing is known -/
theorem Rel.putObj (h : Rel e w0 W m w) {F : Nat → Nat → Prop} (hF : Objs e w0 W m w F) {i t : Nat} {x : Pay} {I : ObjI} {F2 : Nat → Prop} (hil : i < m.length) (hI : I.ok x w (e i) F2) (hW : ∀ b, F2 b → W b ∨ w0.heap.size ≤ b)
    (hap : ∀ {j y J b}, j ≠ i → IsO m j y J → F j b → ¬ F2 b) (hoff : ∀ {j r a}, j ≠ i → m[j]? = some (some r) → r.con.some_ → e j = some a → ¬ F2 a.block) : Rel e w0 W (m.set i (some ⟨true, .obj t x I⟩)) w := by
  have hget : ∀ {j r}, (m.set i (some ⟨true, .obj t x I⟩))[j]? = some (some r) → (j = i ∧ r = ⟨true, .obj t x I⟩) ∨ (j ≠ i ∧ m[j]? = some (some r)) := by
    intro j r hj
    by_cases hij : i = j
    · subst hij
      rw [List.getElem?_set_self hil] at hj
      cases hj
      exact .inl ⟨rfl, rfl⟩
    · rw [List.getElem?_set_ne hij] at hj
      exact .inr ⟨Ne.symm hij, hj⟩
  have hgs : ∀ {j r}, (m.set i (some ⟨true, .obj t x I⟩))[j]? = some (some r) → r.con.some_ → j ≠ i ∧ m[j]? = some (some r) := by
    intro j r hj hs
    rcases hget hj with ⟨_, h2⟩ | h2
    · subst h2; exact hs.elim
    · exact h2
  have hIO : ∀ {j y J}, IsO (m.set i (some ⟨true, .obj t x I⟩)) j y J → (j = i ∧ y = x ∧ J = I) ∨ (j ≠ i ∧ IsO m j y J) := by
    rintro j y J ⟨t', hj⟩
    rcases hget hj with ⟨h1, h2⟩ | ⟨h1, h2⟩
    · cases h2; exact .inl ⟨h1, rfl, rfl⟩
    · exact .inr ⟨h1, t', h2⟩
  refine ⟨h.fr, fun j r hj => ?_, fun q j rq rj a b hqj hq hj hrw hsq hsj ha hb => ?_, fun q r a hq hrw hsq ha => ?_, ⟨fun j b => if j = i then F2 b else F j b, ?_⟩, h.ro.set i fun t x I hh => by cases hh⟩
  · rcases hget hj with ⟨_, h2⟩ | ⟨_, h2⟩
    · subst h2
      exact ⟨fun j v hv => (by cases hv), fun es k hm => (by cases hm)⟩
    · exact h.reg j r h2
  · exact h.sep q j rq rj a b hqj (hgs hq hsq).2 (hgs hj hsj).2 hrw hsq hsj ha hb
  · exact h.wr q r a (hgs hq hsq).2 hrw hsq ha
  · refine ⟨fun {j y J} hj => ?_, fun {q j y z I' J b} hqj hq hj hb hb2 => ?_, fun {q j y I' r a} hq hj hs ha hb => ?_, fun {q y I' b} hq hb => ?_⟩
    · rcases hIO hj with ⟨rfl, rfl, rfl⟩ | ⟨h1, h2⟩
      · simp only [if_pos]; exact hI
      · simp only [if_neg h1]; exact hF.ok h2
    · rcases hIO hq with ⟨h1, _, _⟩ | ⟨h1, h2⟩ <;> rcases hIO hj with ⟨g1, _, _⟩ | ⟨g1, g2⟩
      · exact hqj (h1.trans g1.symm)
      · rw [if_pos h1] at hb
        rw [if_neg g1] at hb2
        exact hap g1 g2 hb2 hb
      · rw [if_neg h1] at hb
        rw [if_pos g1] at hb2
        exact hap h1 h2 hb hb2
      · rw [if_neg h1] at hb
        rw [if_neg g1] at hb2
        exact hF.apart hqj h2 g2 hb hb2
    · obtain ⟨g1, g2⟩ := hgs hj hs
      rcases hIO hq with ⟨h1, _, _⟩ | ⟨h1, h2⟩
      · rw [if_pos h1] at hb
        exact hoff g1 g2 hs ha hb
      · rw [if_neg h1] at hb
        exact hF.off h2 g2 hs ha hb
    · rcases hIO hq with ⟨h1, _, _⟩ | ⟨h1, h2⟩
      · rw [if_pos h1] at hb; exact hW b hb
      · rw [if_neg h1] at hb; exact hF.wr h2 hb

/-- a world that is another one in an object's blocks alone: all else is known as it was -/
theorem Rel.freeObj (h : Rel e w0 W m w) {F : Nat → Nat → Prop} (hF : Objs e w0 W m w F) {i : Nat} {x : Pay} {I : ObjI} (hi : IsO m i x I) {w' : World} (hos : w'.os = w.os) (htp : w'.tape = w.tape) (hout : w'.output = w.output) (hsz : w'.heap.size = w.heap.size)
    (hb : ∀ b, ¬ F i b → w'.heap[b]? = w.heap[b]?) : Rel e w0 W (m.set i none) w' ∧ Objs e w0 W (m.set i none) w' F := by
  have hil := hi.lt
  have hget : ∀ {j r}, (m.set i none)[j]? = some (some r) → j ≠ i ∧ m[j]? = some (some r) := by
    intro j r hj
    by_cases hij : i = j
    · subst hij
      rw [List.getElem?_set_self hil] at hj; cases hj
    · rw [List.getElem?_set_ne hij] at hj
      exact ⟨Ne.symm hij, hj⟩
  have hIO : ∀ {j y J}, IsO (m.set i none) j y J → j ≠ i ∧ IsO m j y J := fun {j y J} ⟨t, hj⟩ => ⟨(hget hj).1, t, (hget hj).2⟩
  have hO : Objs e w0 W (m.set i none) w' F := hF.to (fun hj => ⟨(hIO hj).2, rfl⟩) (by omega) (fun {j y J b} hj hbj => hb b fun hbi => hF.apart (hIO hj).1 (hIO hj).2 hi hbj hbi) fun {q y I' j r a} hq hj hs ha => hF.off (hIO hq).2 (hget hj).2 hs ha
  refine ⟨⟨⟨hos.trans h.fr.os, htp.trans h.fr.tape, hout.trans h.fr.output, by have := h.fr.size; omega, fun b hb0 hW => ?_⟩, fun j r hj => ?_, fun q j rq rj a b hqj hq hj hrw hsq hsj ha hb2 => ?_, fun q r a hq hrw hsq ha => ?_, ⟨F, hO⟩, h.ro.set i fun t x I hh => by cases hh⟩, hO⟩
  · rw [hb b fun hbi => ?_]
    · exact h.fr.block b hb0 hW
    · rcases hF.wr hi hbi with h1 | h1
      · exact hW h1
      · omega
  · exact (h.reg j r (hget hj).2).keep fun a ha hs => hb _ fun hbi => hF.off hi (hget hj).2 hs ha hbi
  · exact h.sep q j rq rj a b hqj (hget hq).2 (hget hj).2 hrw hsq hsj ha hb2
  · exact h.wr q r a (hget hq).2 hrw hsq ha

/-- a new object of one block -/
theorem Rel.newObj (h : Rel e w0 W m w) {o : Obj} {t : Nat} {x : Pay} {I : ObjI} (hag : ∀ i, i < m.length → e' i = e i) (hn : e' m.length = some ⟨w.heap.size, 0, none⟩) (hok : Mem.ok m = true)
    (hI : I.ok x (w.alloc o) (some ⟨w.heap.size, 0, none⟩) (fun b => b = w.heap.size)) : Rel e' w0 W (m ++ [some ⟨true, .obj t x I⟩]) (w.alloc o) := by
  have h1 : Rel e' w0 W (m ++ [some ⟨true, .tab 0 []⟩]) (w.alloc o) := h.alloc hag hn hok ⟨fun j v hv => by simp [Con.cell] at hv, fun es k hm => by cases hm⟩
  have hlen : (m ++ [some ⟨true, .tab 0 []⟩] : Mem).length = m.length + 1 := by simp
  have hset : (m ++ [some (⟨true, .tab 0 []⟩ : Reg)] : Mem).set m.length (some ⟨true, .obj t x I⟩) = m ++ [some ⟨true, .obj t x I⟩] := by
    rw [List.set_append_right _ _ (Nat.le_refl _), Nat.sub_self]; rfl
  have hold : ∀ {j : Nat} {r : Reg}, r.con.some_ → (m ++ [some (⟨true, .tab 0 []⟩ : Reg)] : Mem)[j]? = some (some r) → j < m.length ∧ m[j]? = some (some r) := by
    intro j r hs hr
    rcases Nat.lt_or_ge j m.length with h2 | h2
    · rw [List.getElem?_append_left h2] at hr
      exact ⟨h2, hr⟩
    · rw [List.getElem?_append_right h2] at hr
      rcases Nat.eq_zero_or_pos (j - m.length) with h0 | h0
      · rw [h0] at hr
        simp at hr
        subst hr
        exact absurd hs.1 (Nat.lt_irrefl 0)
      · rw [List.getElem?_eq_none (by simp; omega)] at hr; cases hr
  obtain ⟨G, hG⟩ := h.obj
  have hIO : ∀ {j : Nat} {y : Pay} {J : ObjI}, IsO (m ++ [some (⟨true, .tab 0 []⟩ : Reg)]) j y J → j < m.length ∧ IsO m j y J := fun hj => hj.of_push (fun _ _ _ _ hh => by cases hh)
  have hltG : ∀ {j : Nat} {y : Pay} {J : ObjI} {b : Nat}, IsO m j y J → G j b → b < w.heap.size := fun {j y J b} hj hb => J.lt (hG.ok hj) b hb
  have hF : Objs e' w0 W (m ++ [some (⟨true, .tab 0 []⟩ : Reg)]) (w.alloc o) G :=
    hG.to (fun hj => ⟨(hIO hj).2, hag _ (hIO hj).1⟩) (by show w.heap.size ≤ (w.heap.push o).size; simp) (fun hj hb => Below.heap_alloc _ _ _ (hltG (hIO hj).2 hb)) (fun {q y I' j r a} hq hj hs ha => by
      obtain ⟨g1, g2⟩ := hold hs hj
      rw [hag j g1] at ha
      exact hG.off (hIO hq).2 g2 hs ha)
  rw [← hset]
  refine h1.putObj hF (by rw [hlen]; omega) (by rw [hn]; exact hI) (fun b hb => .inr ?_) (fun {j y J b} hj hO hb hb2 => ?_) (fun {j r a} hj hr hs ha hb2 => ?_)
  · have := h.fr.size; have hb : b = w.heap.size := hb; omega
  · have h3 := hltG (hIO hO).2 hb
    have hb2 : b = w.heap.size := hb2
    omega
  · obtain ⟨g1, g2⟩ := hold hs hr
    rw [hag j g1] at ha
    have hR := h.reg j r g2
    rw [ha] at hR
    have h3 := hR.lt hs
    have hb2 : a.block = w.heap.size := hb2
    omega
end

/-! ### Kinds of maps -/
/-- A map's type, known to a body: its key's cells, its value's (none: a bool), whether each is one cell alone. -/
structure MapT (P : Program) where
  t : TypeId
  kt : TypeId
  vt : TypeId
  ks : List IntKind
  kone : Bool
  vs : List (Option IntKind)
  vone : Bool
  und : P.underlying t = some (.map kt vt)
def cellsK : List IntKind → List Int → List Value
  | [], _ => []
  | k :: ks, l => .int k (l.headD 0) :: cellsK ks l.tail
def cellV (k : Option IntKind) (n : Int) : Value := match k with | some k => .int k n | none => .bool (decide (n = 1))
def cellsV : List (Option IntKind) → List Int → List Value
  | [], _ => []
  | k :: ks, l => cellV k (l.headD 0) :: cellsV ks l.tail
def packV (one : Bool) (l : List Value) : Value := match one with | true => l.headD undef | false => .agg l.toArray
variable {P : Program}
def MapT.key (T : MapT P) (l : List Int) : Value := packV T.kone (cellsK T.ks l)
def MapT.val (T : MapT P) (l : List Int) : Value := packV T.vone (cellsV T.vs l)
def MapT.ent (T : MapT P) (r : MRow) : MapEntry := { key := T.key r.k, val := T.val r.v, born := r.b }
def MapT.ents (T : MapT P) (L : List MRow) : Array MapEntry := (L.map T.ent).toArray
/-- a key's cells are what their kinds can hold -/
def KeyW : List IntKind → List Int → Prop
  | [], [] => True
  | k :: ks, n :: l => (k.min ≤ n ∧ n ≤ k.max) ∧ KeyW ks l
  | _, _ => False
theorem KeyW.len : ∀ {ks : List IntKind} {l : List Int}, KeyW ks l → l.length = ks.length
  | [], [], _ => rfl
  | k :: ks, n :: l, h => by simp [KeyW.len h.2]
  | [], _ :: _, h => h.elim
  | _ :: _, [], h => h.elim
/-- what must be shown of it once -/
structure MapOK (T : MapT P) : Prop where
  law : Maps.Keyed P T.kt
  key : ∀ l : List Int, KeyW T.ks l → ∃ q, keyOf P T.kt (T.key l) = some q
  zero : ∀ w, (zeroValue T.vt).run P w = .ok (T.val (List.replicate T.vs.length 0)) w
  one : (T.kone = true → T.ks.length = 1) ∧ (T.vone = true → T.vs.length = 1)

theorem cellsK_inj : ∀ {ks : List IntKind} {l l' : List Int}, l.length = ks.length → l'.length = ks.length → cellsK ks l = cellsK ks l' → l = l'
  | [], [], [], _, _, _ => rfl
  | [], _ :: _, _, h, _, _ => by cases h
  | [], _, _ :: _, _, h, _ => by cases h
  | k :: ks, [], _, h, _, _ => by cases h
  | k :: ks, _, [], _, h, _ => by cases h
  | k :: ks, x :: l, y :: l', h, h', he => by
    simp only [cellsK, List.headD_cons, List.tail_cons, List.cons.injEq, Value.int.injEq, true_and] at he
    rw [he.1, cellsK_inj (by simpa using h) (by simpa using h') he.2]
theorem cellsK_len : ∀ (ks : List IntKind) (l : List Int), (cellsK ks l).length = ks.length
  | [], _ => rfl
  | k :: ks, l => by simp [cellsK, cellsK_len ks]
theorem MapT.key_inj {T : MapT P} (ok : MapOK T) {l l' : List Int} (h : l.length = T.ks.length) (h' : l'.length = T.ks.length) (he : T.key l = T.key l') : l = l' := by
  unfold MapT.key packV at he
  split at he
  · rename_i h1
    have h2 := ok.one.1 h1
    have h3 := cellsK_len T.ks l
    have h4 := cellsK_len T.ks l'
    refine cellsK_inj h h' ?_
    rw [h2] at h3 h4
    obtain ⟨x, hx⟩ := List.length_eq_one_iff.1 h3
    obtain ⟨y, hy⟩ := List.length_eq_one_iff.1 h4
    rw [hx, hy] at he ⊢
    rw [show x = y from he]
  · injection he with he
    have h5 := congrArg Array.toList he
    simp at h5
    exact cellsK_inj h h' h5

def mpGet (L : List MRow) (k : List Int) : Option (List Int) := (L.find? fun r => decide (r.k = k)).map (·.v)
def mpHas (L : List MRow) (k : List Int) : Bool := L.any fun r => decide (r.k = k)
def mpPut (L : List MRow) (k v : List Int) (c : Nat) : List MRow := match mpHas L k with
  | true => L.map fun r => if r.k = k then { r with v := v } else r
  | false => L ++ [⟨k, v, c⟩]
def mpTick (L : List MRow) (k : List Int) (c : Nat) : Nat := match mpHas L k with | true => c | false => c + 1
def mpDel (L : List MRow) (k : List Int) : List MRow := L.filter fun r => !decide (r.k = k)
/-- entries as they may stand in a map -/
structure MpOK (ks : List IntKind) (L : List MRow) (c : Nat) : Prop where
  len : ∀ r, r ∈ L → KeyW ks r.k
  lt : ∀ r, r ∈ L → r.b < c
  ap : L.Pairwise fun r s => r.k ≠ s.k ∧ r.b ≠ s.b

/-- a map, there -/
def mapI (T : MapT P) : ObjI where
  ok := fun x w A F => ∃ mb c L, x = { ns := [mb, c], mp := [L] } ∧ A = some ⟨mb, 0, none⟩ ∧ (∀ b, F b ↔ b = mb) ∧ w.heap[mb]? = some (.map (T.ents L) c) ∧ MpOK T.ks L c
  some_ := fun ⟨mb, c, L, _, h, _⟩ => ⟨_, h⟩
  lt := fun {x w A F} ⟨mb, c, L, _, _, h, h2, _⟩ b hb => by
    rw [(h b).1 hb]
    exact (Array.getElem?_eq_some_iff.1 h2).1
  frame := fun {x w A F w'} ⟨mb, c, L, h0, h1, h, h2, h3⟩ _ hb => ⟨mb, c, L, h0, h1, h, (hb mb ((h mb).2 rfl)).trans h2, h3⟩
/-- what goes through a map: whose entries, from which number on, since when; what was met, the latest first -/
def iterI : ObjI where
  ok := fun x w A F => ∃ ib mb since last seen, x = { ns := [mb, since, last], mp := [seen] } ∧ A = some ⟨ib, 0, none⟩ ∧ (∀ b, F b ↔ b = ib) ∧ w.heap[ib]? = some (.mapIter (some mb) since (seen.reverse.map (·.b)).toArray last) ∧ since ≤ last
  some_ := fun ⟨_, _, _, _, _, _, h, _⟩ => ⟨_, h⟩
  lt := fun {x w A F} ⟨ib, mb, s, l, seen, _, _, h, h2, _⟩ b hb => by
    rw [(h b).1 hb]
    exact (Array.getElem?_eq_some_iff.1 h2).1
  frame := fun {x w A F w'} ⟨ib, mb, s, l, seen, h0, h1, h, h2, h3⟩ _ hb => ⟨ib, mb, s, l, seen, h0, h1, h, (hb ib ((h ib).2 rfl)).trans h2, h3⟩

/-- where a key is found -/
theorem find_at {T : MapT P} (ok : MapOK T) {L : List MRow} {c : Nat} (h : MpOK T.ks L c) {k : List Int} (hk : KeyW T.ks k) (w : World) :
    ((Instr.findKey T.kt (T.key k) (L.map T.ent)).run P w = .ok none w ∧ ∀ r ∈ L, r.k ≠ k) ∨ ∃ (j : Nat) (r : MRow), (Instr.findKey T.kt (T.key k) (L.map T.ent)).run P w = .ok (some (j, T.val r.v)) w ∧ L[j]? = some r ∧ r.k = k := by
  obtain ⟨q, hq⟩ := ok.key k hk
  rcases ok.law.find w hq (L.map T.ent) (fun x hx => by
    obtain ⟨r, hr, rfl⟩ := List.mem_map.1 hx
    exact ok.key r.k (h.len r hr)) with ⟨h1, h2⟩ | ⟨j, x, h1, h2, h3⟩
  · exact .inl ⟨h1, fun r hr he => h2 _ (List.mem_map.2 ⟨r, hr, rfl⟩) (by show T.key r.k = T.key k; rw [he])⟩
  · rw [List.getElem?_map] at h2
    cases hr : L[j]? with
    | none => rw [hr] at h2; cases h2
    | some r =>
      rw [hr] at h2
      cases h2
      exact .inr ⟨j, r, h1, hr, T.key_inj ok (h.len r (List.mem_of_getElem? hr)).len hk.len h3⟩

theorem mpGet_none {L : List MRow} {k : List Int} (h : ∀ r ∈ L, r.k ≠ k) : mpGet L k = none := by
  unfold mpGet
  rw [List.find?_eq_none.2 fun r hr => by simpa using h r hr]; rfl
theorem mpGet_some {n : List IntKind} {c : Nat} {L : List MRow} (h : MpOK n L c) {r : MRow} (hr : r ∈ L) : mpGet L r.k = some r.v := by
  unfold mpGet
  have key : ∀ (M : List MRow), M.Pairwise (fun r s => r.k ≠ s.k ∧ r.b ≠ s.b) → r ∈ M → M.find? (fun s => decide (s.k = r.k)) = some r := by
    intro M
    induction M with
    | nil => intro _ hm; cases hm
    | cons s M ih =>
      intro hp hm
      obtain ⟨h1, h2⟩ := List.pairwise_cons.1 hp
      rcases List.mem_cons.1 hm with rfl | hm
      · rw [List.find?_cons_of_pos (by simp)]
      · rw [List.find?_cons_of_neg (by simpa using (h1 r hm).1)]
        exact ih h2 hm
  rw [key L h.ap hr]; rfl
theorem mpHas_iff {L : List MRow} {k : List Int} : mpHas L k = true ↔ ∃ r ∈ L, r.k = k := by
  unfold mpHas
  rw [List.any_eq_true]
  constructor
  · rintro ⟨r, h1, h2⟩; exact ⟨r, h1, of_decide_eq_true h2⟩
  · rintro ⟨r, h1, h2⟩; exact ⟨r, h1, decide_eq_true h2⟩
theorem mpHas_no {L : List MRow} {k : List Int} (h : ∀ r ∈ L, r.k ≠ k) : mpHas L k = false := by
  cases hh : mpHas L k with
  | false => rfl
  | true =>
    obtain ⟨r, h1, h2⟩ := mpHas_iff.1 hh
    exact absurd h2 (h r h1)

/-! what a key and a value are -/
def intsK : List IntKind → List SA → Option (List Int)
  | [], [] => some []
  | k :: ks, .v (.int k' n) :: l => (match kindEq k k', intsK ks l with | true, some r => some (n :: r) | _, _ => none)
  | _, _ => none
def keyI (T : MapT P) (v : SV1) : Option (List Int) := match T.kone, v with
  | true, .a x => intsK T.ks [x]
  | false, .agg l => intsK T.ks l
  | _, _ => none
theorem intsK_ok (e : Env) : ∀ {ks : List IntKind} {l : List SA} {r : List Int}, intsK ks l = some r → r.length = ks.length ∧ l.map (SA.den e) = cellsK ks r
  | [], [], r, h => by cases h; exact ⟨rfl, rfl⟩
  | [], _ :: _, r, h => by cases h
  | k :: ks, [], r, h => by cases h
  | k :: ks, x :: l, r, h => by
    unfold intsK at h
    split at h
    · rename_i heq; cases heq
    · rename_i k' n l' heq1 heq2
      cases heq1
      cases heq2
      split at h
      · rename_i r' hk hr
        cases h
        obtain ⟨h1, h2⟩ := intsK_ok e hr
        refine ⟨by simp [h1], ?_⟩
        simp only [List.map_cons, SA.den, cellsK, List.headD_cons, List.tail_cons, kind_eq hk, h2]
      · cases h
    · cases h
theorem keyI_ok {T : MapT P} (ok : MapOK T) (e : Env) {v : SV1} {l : List Int} (h : keyI T v = some l) : l.length = T.ks.length ∧ v.den e = T.key l := by
  unfold keyI at h
  split at h
  · rename_i x hone
    obtain ⟨h1, h2⟩ := intsK_ok e h
    refine ⟨h1, ?_⟩
    unfold MapT.key packV
    rw [hone, ← h2]; rfl
  · rename_i l' hone
    obtain ⟨h1, h2⟩ := intsK_ok e h
    refine ⟨h1, ?_⟩
    unfold MapT.key packV
    rw [hone, ← h2]; rfl
  · cases h
def bint (b : Bool) : Int := match b with | true => 1 | false => 0
def valC (k : Option IntKind) (x : SA) : Option Int := match k, x with
  | some k, .v (.int k' n) => (match kindEq k k' with | true => some n | false => none)
  | none, x => (match boolOf x with | some b => some (bint b) | none => none)
  | _, _ => none
def intsV : List (Option IntKind) → List SA → Option (List Int)
  | [], [] => some []
  | k :: ks, x :: l => (match valC k x, intsV ks l with | some n, some r => some (n :: r) | _, _ => none)
  | _, _ => none
def valI (T : MapT P) (v : SV1) : Option (List Int) := match T.vone, v with
  | true, .a x => intsV T.vs [x]
  | false, .agg l => intsV T.vs l
  | _, _ => none
theorem valC_ok (e : Env) {k : Option IntKind} {x : SA} {n : Int} (h : valC k x = some n) : x.den e = cellV k n := by
  unfold valC at h
  split at h
  · split at h
    · rename_i hk
      cases h
      simp only [SA.den, cellV, kind_eq hk]
    · cases h
  · split at h
    · rename_i b hb
      cases h
      rw [boolOf_den hb]
      cases b <;> rfl
    · cases h
  · cases h
theorem intsV_ok (e : Env) : ∀ {ks : List (Option IntKind)} {l : List SA} {r : List Int}, intsV ks l = some r → l.map (SA.den e) = cellsV ks r
  | [], [], r, h => by cases h; rfl
  | [], _ :: _, r, h => by cases h
  | k :: ks, [], r, h => by cases h
  | k :: ks, x :: l, r, h => by
    unfold intsV at h
    split at h
    · rename_i n r' h1 h2
      cases h
      simp only [List.map_cons, cellsV, List.headD_cons, List.tail_cons, valC_ok e h1, intsV_ok e h2]
    · cases h
theorem valI_ok {T : MapT P} (e : Env) {v : SV1} {l : List Int} (h : valI T v = some l) : v.den e = T.val l := by
  unfold valI at h
  split at h
  · rename_i x hone
    have h2 := intsV_ok e h
    unfold MapT.val packV
    rw [hone, ← h2]; rfl
  · rename_i l' hone
    have h2 := intsV_ok e h
    unfold MapT.val packV
    rw [hone, ← h2]; rfl
  · cases h
/-! what is found -/
def cellI (g : Option (List Int)) (j : Nat) : Int := match g with | some v => v.getD j 0 | none => 0
def lkCell (k : Option IntKind) (n : Int) : SA := match k with | some k => .v (.int k n) | none => .v (.bool (decide (n = 1)))
def lkCells (g : Option (List Int)) : Nat → List (Option IntKind) → List SA
  | _, [] => []
  | j, k :: vs => lkCell k (cellI g j) :: lkCells g (j + 1) vs
def lkV (T : MapT P) (g : Option (List Int)) : SV1 := match T.vone, lkCells g 0 T.vs with
  | true, [x] => .a x
  | true, _ => .agg []
  | false, l => .agg l
def lkSV (T : MapT P) (ok : Bool) (g : Option (List Int)) : SV := match ok with
  | true => .tup [lkV T g, .a (.v (.bool g.isSome))]
  | false => .one (lkV T g)
theorem lkCell_den (e : Env) (k : Option IntKind) (n : Int) : (lkCell k n).den e = cellV k n := by cases k <;> rfl
theorem lkCells_some (e : Env) (v : List Int) : ∀ (vs : List (Option IntKind)) (j : Nat), (lkCells (some v) j vs).map (SA.den e) = cellsV vs (v.drop j)
  | [], _ => rfl
  | k :: vs, j => by
    simp only [lkCells, List.map_cons, lkCell_den, cellsV, lkCells_some e v vs (j + 1), cellI]
    rw [List.headD_eq_head?_getD, List.head?_drop, List.tail_drop]
    simp [List.getD_eq_getElem?_getD]
theorem lkCells_none (e : Env) : ∀ (vs : List (Option IntKind)) (j : Nat), (lkCells none j vs).map (SA.den e) = cellsV vs (List.replicate vs.length 0)
  | [], _ => rfl
  | k :: vs, j => by
    simp only [lkCells, List.map_cons, lkCell_den, cellsV, lkCells_none e vs (j + 1), cellI, List.length_cons, List.replicate_succ, List.headD_cons, List.tail_cons]
theorem lkV_den {T : MapT P} (ok : MapOK T) (e : Env) {g : Option (List Int)} {l : List Int} (h : (lkCells g 0 T.vs).map (SA.den e) = cellsV T.vs l) : (lkV T g).den e = T.val l := by
  unfold lkV MapT.val packV
  split
  · rename_i x hone hx
    rw [hone, ← h, hx]; rfl
  · rename_i hone hx
    have h1 := ok.one.2 hone
    exfalso
    have h2 : (lkCells g 0 T.vs).length = 1 := by
      have key : ∀ (vs : List (Option IntKind)) (j : Nat), (lkCells g j vs).length = vs.length := by
        intro vs
        induction vs with
        | nil => intro j; rfl
        | cons k vs ih => intro j; simp [lkCells, ih]
      rw [key, h1]
    obtain ⟨x, h3⟩ := List.length_eq_one_iff.1 h2
    exact hx x h3
  · rename_i hone
    rw [hone, ← h]; rfl
theorem run_lookup {T : MapT P} (ok : MapOK T) {w : World} {mb c : Nat} {L : List MRow} (hb : w.heap[mb]? = some (.map (T.ents L) c)) (h : MpOK T.ks L c) {k : List Int} (hk : KeyW T.ks k) (cm : Bool) (e : Env) :
    (Instr.lookup T.t (.map (some mb)) (T.key k) cm).run P w = .ok ((lkSV T cm (mpGet L k)).den e) w := by
  obtain ⟨q, hq⟩ := ok.key k hk
  have hchk := ok.law.check w (T.ents L).isEmpty hq
  have hl : (T.ents L).toList = L.map T.ent := by simp [MapT.ents]
  rcases find_at ok h hk w with ⟨h1, h2⟩ | ⟨j, r, h1, h2, h3⟩
  · rw [mpGet_none h2]
    have hz := ok.zero w
    have hv := lkV_den ok e (lkCells_none e T.vs 0)
    cases cm <;> simp [Instr.lookup, run_underlying T.und, MapKept.run_getObj_map hb, hchk, hl, h1, hz, lkSV, SV.den, SV1.den, SA.den] <;> exact hv.symm
  · subst h3
    rw [mpGet_some h (List.mem_of_getElem? h2)]
    have hv := lkV_den ok e (lkCells_some e r.v T.vs 0)
    rw [List.drop_zero] at hv
    cases cm <;> simp [Instr.lookup, run_underlying T.und, MapKept.run_getObj_map hb, hchk, hl, h1, lkSV, SV.den, SV1.den, SA.den] <;> exact hv.symm

/-! what is laid, and taken away -/
theorem mpOK_nil (n : List IntKind) : MpOK n [] 0 := ⟨fun r hr => absurd hr (List.not_mem_nil), fun r hr => absurd hr (List.not_mem_nil), List.Pairwise.nil⟩
theorem MpOK.put {n : List IntKind} {c : Nat} {L : List MRow} (h : MpOK n L c) {k v : List Int} (hk : KeyW n k) : MpOK n (mpPut L k v c) (mpTick L k c) := by
  unfold mpPut mpTick
  cases hh : mpHas L k with
  | true =>
    have hm : ∀ r : MRow, (if r.k = k then { r with v := v } else r : MRow).k = r.k ∧ (if r.k = k then { r with v := v } else r : MRow).b = r.b := fun r => by split <;> exact ⟨rfl, rfl⟩
    refine ⟨fun r hr => ?_, fun r hr => ?_, ?_⟩
    · obtain ⟨s, hs, rfl⟩ := List.mem_map.1 hr
      rw [(hm s).1]; exact h.len s hs
    · obtain ⟨s, hs, rfl⟩ := List.mem_map.1 hr
      rw [(hm s).2]; exact h.lt s hs
    · refine List.pairwise_map.2 (h.ap.imp fun {r s} hrs => ?_)
      rw [(hm r).1, (hm r).2, (hm s).1, (hm s).2]; exact hrs
  | false =>
    have hno : ∀ r ∈ L, r.k ≠ k := fun r hr he => by
      rw [mpHas_iff.2 ⟨r, hr, he⟩] at hh; cases hh
    refine ⟨fun r hr => ?_, fun r hr => ?_, List.pairwise_append.2 ⟨h.ap, List.pairwise_singleton _ _, fun r hr s hs => ?_⟩⟩
    · rcases List.mem_append.1 hr with h1 | h1
      · exact h.len r h1
      · rw [List.mem_singleton.1 h1]; exact hk
    · rcases List.mem_append.1 hr with h1 | h1
      · exact Nat.lt_succ_of_lt (h.lt r h1)
      · rw [List.mem_singleton.1 h1]; exact Nat.lt_succ_self c
    · rw [List.mem_singleton.1 hs]
      exact ⟨hno r hr, Nat.ne_of_lt (h.lt r hr)⟩
theorem MpOK.del {n : List IntKind} {c : Nat} {L : List MRow} (h : MpOK n L c) (k : List Int) : MpOK n (mpDel L k) c :=
  ⟨fun r hr => h.len r (List.mem_filter.1 hr).1, fun r hr => h.lt r (List.mem_filter.1 hr).1, h.ap.filter _⟩
theorem ap_idx {n : List IntKind} {c : Nat} {L : List MRow} (h : MpOK n L c) {i j : Nat} {r s : MRow} (hi : L[i]? = some r) (hj : L[j]? = some s) (he : r.k = s.k) : i = j := by
  have hp := h.ap
  rw [List.pairwise_iff_getElem] at hp
  obtain ⟨hi1, rfl⟩ := List.getElem?_eq_some_iff.1 hi
  obtain ⟨hj1, rfl⟩ := List.getElem?_eq_some_iff.1 hj
  rcases Nat.lt_trichotomy i j with h1 | h1 | h1
  · exact absurd he (hp i j hi1 hj1 h1).1
  · exact h1
  · exact absurd he.symm (hp j i hj1 hi1 h1).1
theorem ents_put_at {T : MapT P} {c : Nat} {L : List MRow} (h : MpOK T.ks L c) {k v : List Int} {j : Nat} {r : MRow} (hj : L[j]? = some r) (hk : r.k = k) : (T.ents L).modify j (fun e => { e with key := T.key k, val := T.val v }) = T.ents (mpPut L k v c) := by
  have hh : mpHas L k = true := mpHas_iff.2 ⟨r, List.mem_of_getElem? hj, hk⟩
  apply Array.toList_inj.1
  unfold mpPut
  rw [hh]
  simp only [MapT.ents, Array.toList_modify]
  refine List.ext_getElem? fun i => ?_
  rw [List.getElem?_modify, List.getElem?_map, List.getElem?_map, List.getElem?_map]
  cases hi : L[i]? with
  | none => rfl
  | some s =>
    by_cases hij : j = i
    · subst hij
      rw [hj] at hi
      cases hi
      simp [hk, MapT.ent]
    · have hne : s.k ≠ k := fun he => hij (ap_idx h hj hi (hk.trans he.symm))
      simp [hij, hne]
theorem ents_put_new {T : MapT P} {c : Nat} {L : List MRow} {k v : List Int} (h : ∀ r ∈ L, r.k ≠ k) : (T.ents L).push { key := T.key k, val := T.val v, born := c } = T.ents (mpPut L k v c) := by
  apply Array.toList_inj.1
  unfold mpPut
  rw [mpHas_no h]
  simp [MapT.ents, MapT.ent]
theorem ents_del_at {T : MapT P} {c : Nat} {L : List MRow} (h : MpOK T.ks L c) {k : List Int} {j : Nat} {r : MRow} (hj : L[j]? = some r) (hk : r.k = k) : (T.ents L).eraseIdxIfInBounds j = T.ents (mpDel L k) := by
  have hjl := (List.getElem?_eq_some_iff.1 hj).1
  have key : mpDel L k = L.eraseIdx j := by
    unfold mpDel
    have gen : ∀ (M : List MRow) (j : Nat) (r : MRow), M.Pairwise (fun r s => r.k ≠ s.k ∧ r.b ≠ s.b) → M[j]? = some r → r.k = k → M.filter (fun r => !decide (r.k = k)) = M.eraseIdx j := by
      intro M
      induction M with
      | nil => intro j r _ hj; cases hj
      | cons s M ih =>
        intro j r hp hj hrk
        obtain ⟨h1, h2⟩ := List.pairwise_cons.1 hp
        cases j with
        | zero =>
          cases hj
          rw [List.filter_cons_of_neg (by simp [hrk]), List.eraseIdx_cons_zero]
          refine List.filter_eq_self.2 fun x hx => ?_
          have h3 := (h1 x hx).1
          simp only [Bool.not_eq_true', decide_eq_false_iff_not]
          exact fun he => h3 (hrk.trans he.symm)
        | succ j =>
          have hj' : M[j]? = some r := hj
          have h3 := (h1 r (List.mem_of_getElem? hj')).1
          rw [List.filter_cons_of_pos (by simp only [Bool.not_eq_true', decide_eq_false_iff_not]; exact fun he => h3 (he.trans hrk.symm)), List.eraseIdx_cons_succ, ih j r h2 hj' hrk]
    exact gen L j r h.ap hj hk
  rw [key]
  apply Array.toList_inj.1
  have hjs : j < (T.ents L).size := by simp [MapT.ents, hjl]
  rw [Array.eraseIdxIfInBounds, dif_pos hjs]
  simp [MapT.ents, ChangeMaps.map_eraseIdx]
theorem mpDel_no {L : List MRow} {k : List Int} (h : ∀ r ∈ L, r.k ≠ k) : mpDel L k = L := by
  unfold mpDel
  exact List.filter_eq_self.2 fun r hr => by simpa using h r hr
theorem run_update {T : MapT P} (ok : MapOK T) {w : World} {mb c : Nat} {L : List MRow} (hb : w.heap[mb]? = some (.map (T.ents L) c)) (h : MpOK T.ks L c) {k v : List Int} (hk : KeyW T.ks k) :
    (Instr.mapUpdate T.t (.map (some mb)) (T.key k) (T.val v)).run P w = .ok () (ChangeMaps.setBlock w mb (.map (T.ents (mpPut L k v c)) (mpTick L k c))) := by
  obtain ⟨q, hq⟩ := ok.key k hk
  have hchk := ok.law.check w false hq
  have hst := ok.law.stays w hq
  have hl : (T.ents L).toList = L.map T.ent := by simp [MapT.ents]
  rcases find_at ok h hk w with ⟨h1, h2⟩ | ⟨j, r, h1, h2, h3⟩
  · rw [← ents_put_new h2]
    unfold mpTick
    rw [mpHas_no h2]
    simp [Instr.mapUpdate, run_underlying T.und, MapKept.run_getObj_map hb, hchk, hl, h1, MapKept.run_setObj_map _ hb, ChangeMaps.setBlock]
  · rw [← ents_put_at h h2 h3]
    unfold mpTick
    rw [mpHas_iff.2 ⟨r, List.mem_of_getElem? h2, h3⟩]
    have hjs : (T.ents L)[j]? = some (T.ent r) := by simp [MapT.ents, h2]
    have hkk : (T.ent r).key = T.key k := by show T.key r.k = _; rw [h3]
    simp [Instr.mapUpdate, run_underlying T.und, MapKept.run_getObj_map hb, hchk, hl, h1, hjs, hkk, hst, MapKept.run_setObj_map _ hb, ChangeMaps.setBlock]
theorem run_drop {T : MapT P} (ok : MapOK T) {w : World} {mb c : Nat} {L : List MRow} (hb : w.heap[mb]? = some (.map (T.ents L) c)) (h : MpOK T.ks L c) {k : List Int} (hk : KeyW T.ks k) {u ty : TypeId} :
    (Builtin.delete_ #[T.t, u] ty #[.map (some mb), T.key k]).run P w = .ok (.tuple #[]) (ChangeMaps.setBlock w mb (.map (T.ents (mpDel L k)) c)) := by
  obtain ⟨q, hq⟩ := ok.key k hk
  have hchk := ok.law.check w (T.ents L).isEmpty hq
  have hl : (T.ents L).toList = L.map T.ent := by simp [MapT.ents]
  rcases find_at ok h hk w with ⟨h1, h2⟩ | ⟨j, r, h1, h2, h3⟩
  · rw [mpDel_no h2]
    simp [Builtin.delete_, run_underlying T.und, MapKept.run_getObj_map hb, hchk, hl, h1, MapKept.run_setObj_map _ hb, ChangeMaps.setBlock]
  · rw [← ents_del_at h h2 h3]
    simp [Builtin.delete_, run_underlying T.und, MapKept.run_getObj_map hb, hchk, hl, h1, MapKept.run_setObj_map _ hb, ChangeMaps.setBlock]

section
variable {e e' : Env} {w0 : World} {W : Nat → Prop} {m : Mem} {w : World}
/-- an object is changed in its own blocks -/
theorem Rel.setObj (h : Rel e w0 W m w) {F : Nat → Nat → Prop} (hF : Objs e w0 W m w F) {i t : Nat} {x x2 : Pay} {I : ObjI} (hi : IsO m i x I) {w' : World} (hos : w'.os = w.os) (htp : w'.tape = w.tape) (hout : w'.output = w.output) (hsz : w'.heap.size = w.heap.size)
    (hb : ∀ b, ¬ F i b → w'.heap[b]? = w.heap[b]?) (hI : I.ok x2 w' (e i) (F i)) : Rel e w0 W (m.set i (some ⟨true, .obj t x2 I⟩)) w' := by
  obtain ⟨h1, h2⟩ := h.freeObj hF hi hos htp hout hsz hb
  have hil := hi.lt
  have hget : ∀ {j r}, j ≠ i → (m.set i none)[j]? = some (some r) → m[j]? = some (some r) := by
    intro j r hj hr
    rw [List.getElem?_set_ne (Ne.symm hj)] at hr
    exact hr
  have := h1.putObj (i := i) (t := t) h2 (by simpa using hil) hI (fun b hb2 => hF.wr hi hb2) (fun {j y J b} hj ⟨t', hO⟩ hb1 hb2 => hF.apart hj ⟨t', hget hj hO⟩ hi hb1 hb2) (fun {j r a} hj hr hs ha hb2 => hF.off hi (hget hj hr) hs ha hb2)
  rw [List.set_set] at this
  exact this
end
/-- the map that a region is -/
def mapAt (m : Mem) (i : Nat) : Option (Nat × Nat × Nat × List MRow × ObjI) := match m.reg i with
  | some ⟨true, .obj t ⟨[], [mb, c], [], [], [], [], [], [], [L]⟩ I⟩ => some (t, mb, c, L, I)
  | _ => none
theorem mapAt_ok {m : Mem} {i t mb c : Nat} {L : List MRow} {I : ObjI} (h : mapAt m i = some (t, mb, c, L, I)) : m[i]? = some (some ⟨true, .obj t { ns := [mb, c], mp := [L] } I⟩) := by
  unfold mapAt at h
  split at h
  · rename_i h1
    cases h
    exact reg_of h1
  · cases h
theorem map_there {T : MapT P} {e : Env} {w0 : World} {W : Nat → Prop} {m : Mem} {w : World} {F : Nat → Nat → Prop} (hF : Objs e w0 W m w F) {i t mb c : Nat} {L : List MRow} (hi : m[i]? = some (some ⟨true, .obj t { ns := [mb, c], mp := [L] } (mapI T)⟩)) :
    e i = some ⟨mb, 0, none⟩ ∧ (∀ b, F i b ↔ b = mb) ∧ w.heap[mb]? = some (.map (T.ents L) c) ∧ MpOK T.ks L c := by
  obtain ⟨mb', c', L', h1, h2, h3, h4, h5⟩ := hF.ok (i := i) (x := { ns := [mb, c], mp := [L] }) (I := mapI T) ⟨t, hi⟩
  injection h1 with _ h6 _ _ _ _ _ _ h7
  injection h6 with h6 h8
  injection h8 with h8 _
  injection h7 with h7 _
  subst h6; subst h8; subst h7
  exact ⟨h2, h3, h4, h5⟩
/-- a map is looked up -/
def lkX (T : MapT P) (ok : MapOK T) : XRead P where
  rd := fun S o => match o.op with
    | .lookup t x ix cm => (match Nat.beq t T.t, S.ev x, S.ev ix with
      | true, some (.one (.a (.map i))), some (.one kv) => (match mapAt S.m i, keyI T kv with
        | some (_, _, _, L, I), some k => .val (some (I = mapI T ∧ KeyW T.ks k)) (lkSV T cm (mpGet L k))
        | _, _ => .bad)
      | _, _, _ => .bad)
    | _ => .bad
  sound := fun {e w0 W S w a o} hrel ht => by
    split
    · rename_i t x ix cm hop
      split
      · rename_i i kv htt hx hix
        split
        · rename_i t' mb c L I k hm hk
          intro ho
          obtain ⟨ho, hkw⟩ : I = mapI T ∧ KeyW T.ks k := ho
          subst ho
          have htt := Nat.beq_iff.1 htt
          subst htt
          obtain ⟨F, hF⟩ := hrel.obj
          obtain ⟨h1, h2, h3, h4⟩ := map_there hF (mapAt_ok hm)
          obtain ⟨hk1, hk2⟩ := keyI_ok ok e hk
          have hxe := evOk ht hx
          have hie := evOk ht hix
          simp only [SV.den, SV1.den, SA.den, h1, Option.map_some] at hxe
          simp only [SV.den, hk2] at hie
          have hrun := run_lookup ok h3 h4 hkw cm e
          simp only [execOp, hop, hxe, hie, Sem.run_bind, hrun, Result.andThen_ok]; rfl
        · trivial
      · trivial
    · trivial
/-- how many entries -/
def lenX (T : MapT P) : XRead P where
  rd := fun S o => match o.op with
    | .call { callee := .builtin .len, args, argTypes } => (match args.toList, argTypes.toList with
      | [x], [t] => (match Nat.beq t T.t, S.ev x with
        | true, some (.one (.a (.map i))) => (match mapAt S.m i with
          | some (_, _, _, L, I) => .val (some (I = mapI T)) (int_ .i64 L.length)
          | none => .bad)
        | _, _ => .bad)
      | _, _ => .bad)
    | _ => .bad
  sound := fun {e w0 W S w a o} hrel ht => by
    split
    · rename_i args ts hop
      split
      · rename_i x t hargs hts
        split
        · rename_i i htt hx
          split
          · rename_i t' mb c L I hm
            intro ho
            have ho : I = mapI T := ho
            subst ho
            have htt := Nat.beq_iff.1 htt
            subst htt
            obtain ⟨F, hF⟩ := hrel.obj
            obtain ⟨h1, h2, h3, h4⟩ := map_there hF (mapAt_ok hm)
            have hxe := evOk ht hx
            simp only [SV.den, SV1.den, SA.den, h1, Option.map_some] at hxe
            have ha : args = #[x] := Array.toList_inj.1 hargs
            have ht2 : ts = #[T.t] := Array.toList_inj.1 hts
            subst ha; subst ht2
            have hs : (T.ents L).size = L.length := by simp [MapT.ents]
            simp [execOp, hop, hxe, resolve, Deferred.ofValue, invoke, builtin, Builtin.len_, run_underlying T.und, MapKept.run_getObj_map h3, hs, SV.den, SV1.den, SA.den, int_, goInt]
          · trivial
        · trivial
      · trivial
    · trivial

/-- a new map -/
def mkX (T : MapT P) : XAct P where
  act := fun S o => match o.op with
    | .makeMap t none => (match Nat.beq t T.t with
      | true => some (none, [.fam Nat (fun _ => True) (fun _ => .one (.a (.map S.m.length))) (fun n => S.m ++ [some ⟨true, .obj T.t { ns := [n, 0], mp := [[]] } (mapI T)⟩])])
      | false => none)
    | _ => none
  sound := fun S o ob l hact _ hok e w0 W w a hrel ht => by
    split at hact
    · rename_i t hop
      split at hact
      · cases hact
        simp only [St.ok, Bool.and_eq_true] at hok
        have hag : ∀ i, i < S.m.length → (fun i => if i = S.m.length then some ⟨w.heap.size, 0, none⟩ else e i) i = e i := fun i hi => by
          show (if i = S.m.length then _ else e i) = _
          rw [if_neg (by omega)]
        have hn : (fun i => if i = S.m.length then some (⟨w.heap.size, 0, none⟩ : Addr) else e i) S.m.length = some ⟨w.heap.size, 0, none⟩ := by simp
        refine ⟨.map (some w.heap.size), w.alloc (.map #[] 0), .inl (by simp [execOp, hop, Instr.makeMap]), _, List.mem_cons_self, w.heap.size, trivial, _, hag, ?_, ?_⟩
        · simp [SV.den, SV1.den, SA.den]
        · refine hrel.newObj hag hn hok.2 ⟨w.heap.size, 0, [], rfl, rfl, fun b => Iff.rfl, ?_, mpOK_nil _⟩
          show (w.alloc (.map #[] 0)).heap[w.heap.size]? = _
          rw [(MapKept.heap_alloc w _).1]; rfl
      · cases hact
    · cases hact
/-- something is laid under a key -/
def putX (T : MapT P) (ok : MapOK T) : XAct P where
  act := fun S o => match o.op with
    | .mapUpdate t m k x => (match Nat.beq t T.t, S.ev m, S.ev k, S.ev x with
      | true, some (.one (.a (.map i))), some (.one kv), some (.one xv) => (match mapAt S.m i, keyI T kv, valI T xv with
        | some (t', mb, c, L, I), some k, some v => some (some (I = mapI T ∧ KeyW T.ks k), [.one (.tup []) (S.m.set i (some ⟨true, .obj t' { ns := [mb, mpTick L k c], mp := [mpPut L k v c] } I⟩))])
        | _, _, _ => none)
      | _, _, _, _ => none)
    | _ => none
  sound := fun S o ob l hact hob hok e w0 W w a hrel ht => by
    split at hact
    · rename_i t m k x hop
      split at hact
      · rename_i i kv xv htt hm hk hx
        split at hact
        · rename_i t' mb c L I k' v hma hki hvi
          cases hact
          obtain ⟨ho, hkw⟩ : I = mapI T ∧ KeyW T.ks k' := hob
          subst ho
          have htt := Nat.beq_iff.1 htt
          subst htt
          obtain ⟨F, hF⟩ := hrel.obj
          have hmi := mapAt_ok hma
          obtain ⟨h1, h2, h3, h4⟩ := map_there hF hmi
          obtain ⟨hk1, hk2⟩ := keyI_ok ok e hki
          have hv1 := valI_ok e hvi
          have hme := evOk ht hm
          have hke := evOk ht hk
          have hxe := evOk ht hx
          simp only [SV.den, SV1.den, SA.den, h1, Option.map_some] at hme
          simp only [SV.den, hk2] at hke
          simp only [SV.den, hv1] at hxe
          have hrun := run_update ok h3 h4 (v := v) hkw
          have hlt := (Array.getElem?_eq_some_iff.1 h3).1
          refine ⟨undef, ChangeMaps.setBlock w mb (.map (T.ents (mpPut L k' v c)) (mpTick L k' c)), .inr ⟨rfl, by simp only [execOp, hop, hme, hke, hxe, Sem.run_bind, hrun, Result.andThen_ok]; rfl⟩, _, List.mem_cons_self, e, fun _ _ => rfl, rfl, ?_⟩
          refine hrel.setObj hF ⟨t', hmi⟩ rfl rfl rfl (by simp [ChangeMaps.setBlock]) (fun b hb => ?_) ⟨mb, _, _, rfl, h1, h2, by simp [ChangeMaps.setBlock, hlt], h4.put hkw⟩
          have hne : mb ≠ b := fun hh => hb ((h2 b).2 hh.symm)
          simp [ChangeMaps.setBlock, Array.getElem?_setIfInBounds_ne hne]
        · cases hact
      · cases hact
    · cases hact
/-- a key is taken away -/
def delX (T : MapT P) (ok : MapOK T) : XAct P where
  act := fun S o => match o.op with
    | .call { callee := .builtin .delete, args, argTypes } => (match args.toList, argTypes.toList with
      | [m, k], [t, _] => (match Nat.beq t T.t, S.ev m, S.ev k with
        | true, some (.one (.a (.map i))), some (.one kv) => (match mapAt S.m i, keyI T kv with
          | some (t', mb, c, L, I), some k => some (some (I = mapI T ∧ KeyW T.ks k), [.one (.tup []) (S.m.set i (some ⟨true, .obj t' { ns := [mb, c], mp := [mpDel L k] } I⟩))])
          | _, _ => none)
        | _, _, _ => none)
      | _, _ => none)
    | _ => none
  sound := fun S o ob l hact hob hok e w0 W w a hrel ht => by
    split at hact
    · rename_i args ts hop
      split at hact
      · rename_i m k t u hargs hts
        split at hact
        · rename_i i kv htt hm hk
          split at hact
          · rename_i t' mb c L I k' hma hki
            cases hact
            obtain ⟨ho, hkw⟩ : I = mapI T ∧ KeyW T.ks k' := hob
            subst ho
            have htt := Nat.beq_iff.1 htt
            subst htt
            obtain ⟨F, hF⟩ := hrel.obj
            have hmi := mapAt_ok hma
            obtain ⟨h1, h2, h3, h4⟩ := map_there hF hmi
            obtain ⟨hk1, hk2⟩ := keyI_ok ok e hki
            have hme := evOk ht hm
            have hke := evOk ht hk
            simp only [SV.den, SV1.den, SA.den, h1, Option.map_some] at hme
            simp only [SV.den, hk2] at hke
            have hrun := run_drop ok h3 h4 hkw (u := u) (ty := o.type)
            have hlt := (Array.getElem?_eq_some_iff.1 h3).1
            have ha : args = #[m, k] := Array.toList_inj.1 hargs
            have ht2 : ts = #[T.t, u] := Array.toList_inj.1 hts
            subst ha; subst ht2
            refine ⟨.tuple #[], ChangeMaps.setBlock w mb (.map (T.ents (mpDel L k')) c), .inl (by simp [execOp, hop, hme, hke, resolve, Deferred.ofValue, invoke, builtin, hrun]), _, List.mem_cons_self, e, fun _ _ => rfl, rfl, ?_⟩
            refine hrel.setObj hF ⟨t', hmi⟩ rfl rfl rfl (by simp [ChangeMaps.setBlock]) (fun b hb => ?_) ⟨mb, _, _, rfl, h1, h2, by simp [ChangeMaps.setBlock, hlt], h4.del k'⟩
            have hne : mb ≠ b := fun hh => hb ((h2 b).2 hh.symm)
            simp [ChangeMaps.setBlock, Array.getElem?_setIfInBounds_ne hne]
          · cases hact
        · cases hact
      · cases hact
    · cases hact

/-! going through a map -/
def keyCells (l : List Int) : Nat → List IntKind → List SA
  | _, [] => []
  | j, k :: ks => .v (.int k (l.getD j 0)) :: keyCells l (j + 1) ks
def keyV (T : MapT P) (l : List Int) : SV1 := match T.kone, keyCells l 0 T.ks with
  | true, [x] => .a x
  | true, _ => .agg []
  | false, c => .agg c
theorem keyCells_den (e : Env) (v : List Int) : ∀ (vs : List IntKind) (j : Nat), (keyCells v j vs).map (SA.den e) = cellsK vs (v.drop j)
  | [], _ => rfl
  | k :: vs, j => by
    simp only [keyCells, List.map_cons, SA.den, cellsK, keyCells_den e v vs (j + 1)]
    rw [List.headD_eq_head?_getD, List.head?_drop, List.tail_drop]
    simp [List.getD_eq_getElem?_getD]
theorem keyV_den {T : MapT P} (ok : MapOK T) (e : Env) (l : List Int) : (keyV T l).den e = T.key l := by
  have h := keyCells_den e l T.ks 0
  rw [List.drop_zero] at h
  unfold keyV MapT.key packV
  split
  · rename_i x hone hx
    rw [hone, ← h, hx]; rfl
  · rename_i hone hx
    have h1 := ok.one.1 hone
    exfalso
    have h2 : (keyCells l 0 T.ks).length = 1 := by
      have key : ∀ (vs : List IntKind) (j : Nat), (keyCells l j vs).length = vs.length := by
        intro vs
        induction vs with
        | nil => intro j; rfl
        | cons k vs ih => intro j; simp [keyCells, ih]
      rw [key, h1]
    obtain ⟨x, h3⟩ := List.length_eq_one_iff.1 h2
    exact hx x h3
  · rename_i hone
    rw [hone, ← h]; rfl
theorem lkV_val {T : MapT P} (ok : MapOK T) (e : Env) (v : List Int) : (lkV T (some v)).den e = T.val v := by
  have hv := lkCells_some e v T.vs 0
  rw [List.drop_zero] at hv
  exact lkV_den ok e hv
def iterAt (m : Mem) (i : Nat) : Option (Nat × Nat × Nat × Nat × List MRow × ObjI) := match m.reg i with
  | some ⟨true, .obj t ⟨[], [mb, s, c], [], [], [], [], [], [], [L]⟩ I⟩ => some (t, mb, s, c, L, I)
  | _ => none
theorem iterAt_ok {m : Mem} {i t mb s c : Nat} {L : List MRow} {I : ObjI} (h : iterAt m i = some (t, mb, s, c, L, I)) : m[i]? = some (some ⟨true, .obj t { ns := [mb, s, c], mp := [L] } I⟩) := by
  unfold iterAt at h
  split at h
  · rename_i h1
    cases h
    exact reg_of h1
  · cases h
theorem iter_there {e : Env} {w0 : World} {W : Nat → Prop} {m : Mem} {w : World} {F : Nat → Nat → Prop} (hF : Objs e w0 W m w F) {i t mb s c : Nat} {L : List MRow} (hi : m[i]? = some (some ⟨true, .obj t { ns := [mb, s, c], mp := [L] } iterI⟩)) :
    ∃ ib, e i = some ⟨ib, 0, none⟩ ∧ (∀ b, F i b ↔ b = ib) ∧ w.heap[ib]? = some (.mapIter (some mb) s (L.reverse.map (·.b)).toArray c) ∧ s ≤ c := by
  obtain ⟨ib, mb', s', c', L', h1, h2, h3, h4, h5⟩ := hF.ok (i := i) (x := { ns := [mb, s, c], mp := [L] }) (I := iterI) ⟨t, hi⟩
  injection h1 with _ h6 _ _ _ _ _ _ h7
  injection h6 with h6 h8
  injection h8 with h8 h9
  injection h9 with h9 _
  injection h7 with h7 _
  subst h6; subst h8; subst h9; subst h7
  exact ⟨ib, h2, h3, h4, h5⟩
/-- the first region of a kind -/
def findTag (t : Nat) : Mem → Nat → Option Nat
  | [], _ => none
  | some ⟨true, .obj t' _ _⟩ :: m, i => (match Nat.beq t' t with | true => some i | false => findTag t m (i + 1))
  | _ :: m, i => findTag t m (i + 1)
/-- 'range m' -/
def rngX (T : MapT P) : XAct P where
  act := fun S o => match o.op with
    | .range t x => (match Nat.beq t T.t, S.ev x with
      | true, some (.one (.a (.map i))) => (match mapAt S.m i with
        | some (_, mb, c, _, I) => some (some (I = mapI T), [.one (.one (.a (.ptr S.m.length 0))) (S.m ++ [some ⟨true, .obj 0 { ns := [mb, c, c], mp := [[]] } iterI⟩])])
        | none => none)
      | _, _ => none)
    | _ => none
  sound := fun S o ob l hact hob hok e w0 W w a hrel ht => by
    split at hact
    · rename_i t x hop
      split at hact
      · rename_i i htt hx
        split at hact
        · rename_i t' mb c L I hma
          cases hact
          have ho : I = mapI T := hob
          subst ho
          have htt := Nat.beq_iff.1 htt
          subst htt
          simp only [St.ok, Bool.and_eq_true] at hok
          obtain ⟨F, hF⟩ := hrel.obj
          obtain ⟨h1, h2, h3, h4⟩ := map_there hF (mapAt_ok hma)
          have hxe := evOk ht hx
          simp only [SV.den, SV1.den, SA.den, h1, Option.map_some] at hxe
          have hag : ∀ i, i < S.m.length → (fun i => if i = S.m.length then some ⟨w.heap.size, 0, none⟩ else e i) i = e i := fun i hi => by
            show (if i = S.m.length then _ else e i) = _
            rw [if_neg (by omega)]
          have hn : (fun i => if i = S.m.length then some (⟨w.heap.size, 0, none⟩ : Addr) else e i) S.m.length = some ⟨w.heap.size, 0, none⟩ := by simp
          have hrun := run_range_map w T.t T.kt T.vt mb (T.ents L) c T.und h3
          refine ⟨.pointer (some ⟨w.heap.size, 0, none⟩), w.alloc (.mapIter (some mb) c #[] c), .inl (by simp only [execOp, hop, hxe, Sem.run_bind, hrun, Result.andThen_ok]; rfl), _, List.mem_cons_self, _, hag, ?_, ?_⟩
          · simp [SV.den, SV1.den, SA.den, at_, Addr.add]
          · refine hrel.newObj hag hn hok.2 ⟨w.heap.size, mb, c, c, [], rfl, rfl, fun b => Iff.rfl, ?_, Nat.le_refl _⟩
            show (w.alloc (.mapIter (some mb) c #[] c)).heap[w.heap.size]? = _
            rw [(MapKept.heap_alloc w _).1]; rfl
        · cases hact
      · cases hact
    · cases hact
/-- the next entry: whichever, of those not met yet -/
def nxtX (T : MapT P) (ok : MapOK T) : XAct P where
  act := fun S o => match o.op with
    | .next it false => (match S.ev it with
      | some (.one (.a (.ptr j 0))) => (match iterAt S.m j, findTag T.t S.m 0 with
        | some (tg, mb, since, _, seen, I), some i => (match mapAt S.m i with
          | some (_, mb', c, L, I') => some (some (I = iterI ∧ I' = mapI T ∧ mb = mb' ∧ since ≤ c ∧ ∀ r, r ∈ L → r.b < since), [.cond (∀ r, r ∈ L → ∃ s, s ∈ seen ∧ s.b = r.b) (.tup [.a .ff]) S.m,
              .fam MRow (fun r => r ∈ L ∧ ∀ s, s ∈ seen → s.b ≠ r.b) (fun r => .tup [.a .tt, keyV T r.k, lkV T (some r.v)]) (fun r => S.m.set j (some ⟨true, .obj tg { ns := [mb, since, c], mp := [r :: seen] } I⟩))])
          | none => none)
        | _, _ => none)
      | _ => none)
    | _ => none
  sound := fun S o ob l hact hob hok e w0 W w a hrel ht => by
    split at hact
    · rename_i it hop
      split at hact
      · rename_i j hit
        split at hact
        · rename_i tg mb since last seen I i hia hfi
          split at hact
          · rename_i t' mb' c L I' hma
            cases hact
            obtain ⟨h01, h02, h03, h04, hold⟩ : I = iterI ∧ I' = mapI T ∧ mb = mb' ∧ since ≤ c ∧ ∀ r, r ∈ L → r.b < since := hob
            subst h01; subst h02; subst h03
            obtain ⟨F, hF⟩ := hrel.obj
            have hij := iterAt_ok hia
            obtain ⟨h1, h2, h3, h4⟩ := map_there hF (mapAt_ok hma)
            obtain ⟨ib, g1, g2, g3, g4⟩ := iter_there hF hij
            have hie := evOk ht hit
            simp only [SV.den, SV1.den, SA.den, at_, g1, Option.map_some, Addr.add, if_true] at hie
            have hl : (T.ents L).toList = L.map T.ent := by simp [MapT.ents]
            have hc : ∀ b : Nat, (!(seen.reverse.map (·.b)).toArray.contains b) = true ↔ ∀ s, s ∈ seen → s.b ≠ b := by
              intro b
              rw [Bool.not_eq_true', Bool.eq_false_iff]
              have h9 : (seen.reverse.map (·.b)).toArray.contains b = true ↔ ∃ s, s ∈ seen ∧ s.b = b := by simp
              rw [Ne, h9]
              exact ⟨fun hn s hs he => hn ⟨s, hs, he⟩, fun hn ⟨s, hs, he⟩ => hn s hs he⟩
            have hmem : ∀ x : MapEntry, x ∈ (leftOf (T.ents L) (seen.reverse.map (·.b)).toArray).toList ↔ ∃ r, r ∈ L ∧ T.ent r = x ∧ ∀ s, s ∈ seen → s.b ≠ r.b := by
              intro x
              unfold leftOf
              rw [Array.toList_filter, List.mem_filter, hl, List.mem_map, hc]
              constructor
              · rintro ⟨⟨r, hr, rfl⟩, hx⟩
                exact ⟨r, hr, rfl, hx⟩
              · rintro ⟨r, hr, rfl, hx⟩
                exact ⟨⟨r, hr, rfl⟩, hx⟩
            rcases run_next_at (P := P) w o.type ib mb since last (seen.reverse.map (·.b)).toArray (T.ents L) c g3 h3 (fun x hx => by
              rw [hl] at hx
              obtain ⟨r, hr, rfl⟩ := List.mem_map.1 hx
              exact hold r hr) g4 with ⟨h0, hrun⟩ | ⟨x, hx, w1, hw1, hrun⟩
            · refine ⟨_, w, .inl (by simp only [execOp, hop, hie, Sem.run_bind, hrun, Result.andThen_ok]; rfl), _, List.mem_cons_self, fun r hr => ?_, e, fun _ _ => rfl, rfl, hrel⟩
              refine Classical.byContradiction fun hno => ?_
              have hm := (hmem (T.ent r)).2 ⟨r, hr, rfl, fun s hs he => hno ⟨s, hs, he⟩⟩
              have h5 := List.length_pos_of_mem hm
              rw [Array.length_toList] at h5
              omega
            · obtain ⟨r, hr, rfl, hns⟩ := (hmem x).1 hx
              have hw : w1.heap = w.heap ∧ w1.os = w.os ∧ w1.tape = w.tape ∧ w1.output = w.output := by
                rcases hw1 with rfl | rfl <;> exact ⟨rfl, rfl, rfl, rfl⟩
              have hlt := (Array.getElem?_eq_some_iff.1 g3).1
              refine ⟨_, _, .inl (by simp only [execOp, hop, hie, Sem.run_bind, hrun, Result.andThen_ok]; rfl), _, List.mem_cons_of_mem _ List.mem_cons_self, r, ⟨hr, hns⟩, e, fun _ _ => rfl, ?_, ?_⟩
              · simp only [SV.den, List.map_cons, List.map_nil, keyV_den ok, lkV_val ok]
                rfl
              · refine hrel.setObj hF ⟨tg, hij⟩ hw.2.1 hw.2.2.1 hw.2.2.2 (by simp [ChangeMaps.setBlock, hw.1]) (fun b hb => ?_) ⟨ib, mb, since, c, r :: seen, rfl, g1, g2, ?_, ?_⟩
                · have hne : ib ≠ b := fun hh => hb ((g2 b).2 hh.symm)
                  simp [ChangeMaps.setBlock, hw.1, Array.getElem?_setIfInBounds_ne hne]
                · simp [ChangeMaps.setBlock, hw.1, hlt, MapT.ent]
                · exact h04
          · cases hact
        · cases hact
      · cases hact
    · cases hact

/-- what was met last, as long as it stands in the map -/
def entX (T : MapT P) (ok : MapOK T) : XRead P where
  rd := fun S o => match o.op with
    | .entry it => (match S.ev it with
      | some (.one (.a (.ptr j 0))) => (match iterAt S.m j, findTag T.t S.m 0 with
        | some (_, mb, since, last, r :: seen, I), some i => (match mapAt S.m i with
          | some (_, mb', c, L, I') => .val (some (I = iterI ∧ I' = mapI T ∧ mb = mb' ∧ last = c ∧ r ∈ L)) (.tup [keyV T r.k, lkV T (some r.v)])
          | none => .bad)
        | _, _ => .bad)
      | _ => .bad)
    | _ => .bad
  sound := fun {e w0 W S w a o} hrel ht => by
    split
    · rename_i it hop
      split
      · rename_i j hit
        split
        · rename_i tg mb since last r seen I i hia hfi
          split
          · rename_i t' mb' c L I' hma
            intro ho
            obtain ⟨h01, h02, h03, h04, hr⟩ : I = iterI ∧ I' = mapI T ∧ mb = mb' ∧ last = c ∧ r ∈ L := ho
            subst h01; subst h02; subst h03; subst h04
            obtain ⟨F, hF⟩ := hrel.obj
            obtain ⟨h1, h2, h3, h4⟩ := map_there hF (mapAt_ok hma)
            obtain ⟨ib, g1, g2, g3, g4⟩ := iter_there hF (iterAt_ok hia)
            have hie := evOk ht hit
            simp only [SV.den, SV1.den, SA.den, at_, g1, Option.map_some, Addr.add, if_true] at hie
            have hl : (T.ents L).toList = L.map T.ent := by simp [MapT.ents]
            have hpush : ((r :: seen).reverse.map (·.b)).toArray = (seen.reverse.map (·.b)).toArray.push (T.ent r).born := by simp [MapT.ent]
            rw [hpush] at g3
            have hrun := run_entry_at (P := P) w ib mb since (seen.reverse.map (·.b)).toArray (T.ents L) last (T.ent r) g3 h3 (by rw [hl]; exact List.mem_map.2 ⟨r, hr, rfl⟩) (by
              rw [hl, List.map_map]
              exact List.pairwise_map.2 (h4.ap.imp fun {x y} hxy => hxy.2))
            simp only [execOp, hop, hie, Sem.run_bind, hrun, Result.andThen_ok, SV.den, List.map_cons, List.map_nil, keyV_den ok, lkV_val ok]
            rfl
          · trivial
        · trivial
      · trivial
    · trivial
end Go.Sx

/-
  Part 22: slices whose rows are known cell by cell (they may hold addresses and slices): indices; one that is laid behind nothing.
-/
namespace Go.Sx
open Go.RowKit
section
variable {P : Program}

/-- a row of such a slice -/
def ixF : XRead P where
  rd := fun S o => match o.op with
    | .indexAddr t x ix => (match S.ev x, S.ev ix with
      | some (.one (.a (.slc i st 0 len _))), some (.one (.a (.v (.int _ n)))) => (match P.underlying t with
        | some (.slice el) => (match P.info? el, S.m.reg i with
          | some inf, some ⟨_, .flat (_ :: _)⟩ => (match Nat.beq st inf.size with
            | true => .pl none n len (fun j => .one (.a (.ptr i (j * st))))
            | false => .bad)
          | _, _ => .bad)
        | _ => .bad)
      | _, _ => .bad)
    | _ => .bad
  sound := fun {e w0 W S w a o} hrel ht => by
    split
    · rename_i t x ix hop
      split
      · rename_i i st len cap k n hx hix
        split
        · rename_i el hd
          split
          · rename_i inf rw c l hinf hreg
            split
            · rename_i hst
              have hst := Nat.beq_iff.1 hst
              subst hst
              obtain ⟨A, hA, _⟩ := (hrel.reg i _ (reg_of hreg)).cell 0 (c.den e) rfl
              refine good_of_vals (s := Instr.indexAt t (a.eval x) (a.eval ix)) ?_ (by simp [execOp, hop])
              intro _ j hj hn
              subst hn
              have hxe := evOk ht hx
              have hie := evOk ht hix
              have hi : ((j : Int) < (len : Int)) := by omega
              rw [hxe, hie]
              simp [Instr.indexAt, SV.den, SV1.den, SA.den, asIntOf, run_underlying hd, at_some hA, hi, hj, run_sizeOf hinf, Addr.add_zero']
            · trivial
          · trivial
        · trivial
      · trivial
    · trivial

/-- rows known cell by cell, laid behind nothing -/
def apF : XAct P where
  act := fun S o => match o.op with
    | .call { callee := .builtin .append, args, argTypes } => (match args.toList, argTypes.toList with
      | [x, y], [t, u] => (match Nat.beq t u, S.ev x, S.ev y with
        | true, some (.one (.a (.v (.slice none 0 0)))), some (.one (.a (.slc j st 0 k _))) => (match P.underlying t, S.m.reg j with
          | some (.slice el), some ⟨_, .flat (c :: l)⟩ => (match P.info? el with
            | some inf => (match inf.zero, Nat.beq (l.length + 1) (k * st), Nat.beq st inf.size, Nat.blt 0 k, Nat.ble k 1000, Nat.ble inf.bytes 1024 with
              | some _, true, true, true, true, true => some (none, [.fam Nat (fun cap => k ≤ cap ∧ cap ≤ 9223372036854775807) (fun cap => .one (.a (.slc S.m.length st 0 k cap))) (fun _ => S.m ++ [some ⟨true, .flat (c :: l)⟩])])
              | _, _, _, _, _, _ => none)
            | none => none)
          | _, _ => none)
        | _, _, _ => none)
      | _, _ => none)
    | _ => none
  sound := fun S o ob l hact _ hok e w0 W w a hrel ht => by
    split at hact
    · rename_i args ats hop
      split at hact
      · rename_i x y t u hargs hats
        split at hact
        · rename_i j st k cy htu hx hy
          split at hact
          · rename_i el rw c ll hd hreg
            split at hact
            · rename_i inf hinf
              split at hact
              · rename_i z hz hlen hst hk hk2 hby
                cases hact
                have htu := Nat.beq_iff.1 htu
                have hlen := Nat.beq_iff.1 hlen
                have hst := Nat.beq_iff.1 hst
                have hk := blt_iff.1 hk
                have hk2 := Nat.ble_iff.1 hk2
                have hby := Nat.ble_iff.1 hby
                subst htu; subst hst
                simp only [St.ok, Bool.and_eq_true] at hok
                have hmj := reg_of hreg
                have hR := hrel.reg j _ hmj
                obtain ⟨A, hA, _⟩ := hR.cell 0 (c.den e) rfl
                obtain ⟨news, hnews⟩ : ∃ news, news = (c :: ll).map (SA.den e) := ⟨_, rfl⟩
                have hcell : ∀ jj v, news[jj]? = some v → w.cell? (A.add jj) = some v := fun jj v hv => by
                  obtain ⟨A', hA', hc, _⟩ := hR.cell jj v (by
                    show ((c :: ll)[jj]?).map (SA.den e) = some v
                    rw [← List.getElem?_map, ← hnews]; exact hv)
                  rw [hA] at hA'; cases hA'
                  exact hc
                have hrun := fun ty => run_append_nil (P := P) w t ty el inf z hd hinf hz A k cy news (by rw [hnews, List.length_map, List.length_cons, hlen]) hcell hk (by omega) (by have := Nat.mul_le_mul hk2 hby; omega)
                have he := evOk ht hx
                have hye := evOk ht hy
                have ha' : args = #[x, y] := by apply Array.toList_inj.1; simpa using hargs
                have hat' : ats = #[t, t] := by apply Array.toList_inj.1; simpa using hats
                subst ha'; subst hat'
                simp only [SV.den, SV1.den] at he hye
                rw [slc_den0, hA] at hye
                have hge := grownCap_ge w k 0 el
                have hag : ∀ i, i < S.m.length → (fun i => if i = S.m.length then some (⟨w.heap.size, 0, none⟩ : Addr) else e i) i = e i := fun i hi => by
                  show (if i = S.m.length then _ else e i) = _
                  rw [if_neg (by omega)]
                have hn : (fun i => if i = S.m.length then some (⟨w.heap.size, 0, none⟩ : Addr) else e i) S.m.length = some ⟨w.heap.size, 0, none⟩ := by simp
                refine ⟨_, _, .inl (by simp only [execOp, hop, resolve, invoke, builtin, List.map_toArray, List.map_cons, List.map_nil, he, hye, SA.den, Sem.run_bind, Sem.run_pure, Result.andThen_ok, hrun]; rfl), _, List.mem_cons_self, grownCap w k 0 el, ⟨by omega, grownCap_le_maxLen w k 0 el (by simp only [maxLen]; omega)⟩, _, hag, ?_, ?_⟩
                · simp [SV.den, SV1.den, slc_den0]
                · refine hrel.drew.alloc hag hn hok.2 ⟨fun jj v hv => ⟨_, rfl, ?_, fun _ => frozen_new _ _ _ _⟩, fun es q hm => by cases hm⟩
                  rw [Con.congr hag (Mem.ok_get hok.2 hmj)] at hv
                  have h1 : news[jj]? = some v := by rw [hnews, List.getElem?_map]; exact hv
                  have := cell_new w.drew (news.toArray ++ Builtin.zeroCells z.cells (grownCap w k 0 el - k)) el jj
                  rw [show w.drew.heap.size = w.heap.size from rfl] at this
                  rw [show w.drew.heap.size = w.heap.size from rfl, this]
                  have hlt := (List.getElem?_eq_some_iff.1 h1).1
                  rw [Array.getElem?_append_left (by simpa using hlt)]
                  simpa using h1
              · cases hact
            · cases hact
          · cases hact
        · cases hact
      · cases hact
    · cases hact
end
end Go.Sx

/-
  Part 23: slices whose rows are known cell by cell and grow: append; the room behind what is known.
-/
namespace Go.Sx
open Go.RowKit
section
variable {P : Program} {e e' : Env} {w0 : World} {W : Nat → Prop} {m : Mem} {w : World}

/-- of a region something else is known -/
theorem Rel.reknow (h : Rel e w0 W m w) {i : Nat} {b : Bool} {c c' : Con} (hi : m[i]? = some (some ⟨b, c⟩)) (hR : RegOK e w (e i) ⟨b, c'⟩) (hs : c'.some_ → c.some_) (hob : ∀ t x I, c' ≠ .obj t x I) : Rel e w0 W (m.set i (some ⟨b, c'⟩)) w := by
  have hil : i < m.length := (List.getElem?_eq_some_iff.1 hi).1
  have get : ∀ (q : Nat) (r : Reg), (m.set i (some ⟨b, c'⟩))[q]? = some (some r) → ∃ r' : Reg, m[q]? = some (some r') ∧ (r.rw = true → r'.rw = true) ∧ (r.con.some_ → r'.con.some_) := by
    intro q r hq
    by_cases hiq : i = q
    · subst hiq
      rw [List.getElem?_set_self hil] at hq
      cases hq
      exact ⟨_, hi, id, hs⟩
    · rw [List.getElem?_set_ne hiq] at hq
      exact ⟨r, hq, id, id⟩
  refine ⟨h.fr, fun q r hq => ?_, fun q j rq rj a b hqj hq hj hrw hsq hsj ha hb => ?_, fun q r a hq hrw hsq ha => ?_,
    h.obj.imp fun F hF => hF.to (fun hj => ⟨(hj.of_set (fun _ _ _ _ hh => by cases hh; exact hob _ _ _ rfl)).2, rfl⟩) (Nat.le_refl _) (fun _ _ => rfl) (fun hi hj hs ha => by
      obtain ⟨r', h1, _, h3⟩ := get _ _ hj
      exact hF.off (hi.of_set (fun _ _ _ _ hh => by cases hh; exact hob _ _ _ rfl)).2 h1 (h3 hs) ha), h.ro.set i fun t x I hh => by cases hh; exact hob _ _ _ rfl⟩
  · by_cases hiq : i = q
    · subst hiq
      rw [List.getElem?_set_self hil] at hq
      cases hq
      exact hR
    · rw [List.getElem?_set_ne hiq] at hq
      exact h.reg q r hq
  · obtain ⟨rq', h1, h2, h3⟩ := get q rq hq
    obtain ⟨rj', h4, _, h5⟩ := get j rj hj
    exact h.sep q j rq' rj' a b hqj h1 h4 (h2 hrw) (h3 hsq) (h5 hsj) ha hb
  · obtain ⟨rq', h1, h2, h3⟩ := get q r hq
    exact h.wr q rq' a h1 (h2 hrw) (h3 hsq) ha

/-- all cells of the room have values -/
theorem room_all {A : Option Addr} {N : Nat} {l : List SA} (hR : RegOK e w A ⟨true, .room N l⟩) (hl : l.length ≤ N) : ∃ L : List SA, L.length = N ∧ L.take l.length = l ∧ RegOK e w A ⟨true, .flat L⟩ := by
  have hv : ∀ j, ∃ v : Value, j < N → ∃ a, A = some a ∧ w.cell? (a.add j) = some v ∧ (true = true → Thaw w (a.add j)) := fun j => by
    by_cases hj : j < N
    · obtain ⟨a, v, h1, h2, h3⟩ := hR.map N l rfl j hj
      exact ⟨v, fun _ => ⟨a, h1, h2, h3⟩⟩
    · exact ⟨undef, fun h => absurd h hj⟩
  obtain ⟨f, hf⟩ := Classical.axiomOfChoice hv
  refine ⟨l ++ (List.range (N - l.length)).map fun q => SA.v (f (l.length + q)), by simp; omega, by simp, ⟨fun j v hj => ?_, fun n l hm => by cases hm⟩⟩
  simp only [Con.cell] at hj
  rcases Nat.lt_or_ge j l.length with hlt | hge
  · rw [List.getElem?_append_left hlt] at hj
    refine hR.cell j v ?_
    simp only [Con.cell]
    rw [if_pos (by omega)]; exact hj
  · rw [List.getElem?_append_right hge, List.getElem?_map] at hj
    rcases Nat.lt_or_ge (j - l.length) (N - l.length) with h2 | h2
    · rw [List.getElem?_range h2] at hj
      simp only [Option.map_some, SA.den, Option.some.injEq] at hj
      obtain ⟨a, h3, h4, h5⟩ := hf j (by omega)
      rw [show l.length + (j - l.length) = j by omega] at hj
      rw [← hj]
      exact ⟨a, h3, h4, h5⟩
    · rw [List.getElem?_eq_none (by simp; omega)] at hj
      cases hj
theorem flat_room {A : Option Addr} {L : List SA} (hR : RegOK e w A ⟨true, .flat L⟩) (k : Nat) : RegOK e w A ⟨true, .room L.length (L.take k)⟩ := by
  refine ⟨fun j v hj => ?_, fun n l hm j hj => ?_⟩
  · simp only [Con.cell] at hj
    split at hj
    · refine hR.cell j v ?_
      simp only [Con.cell]
      rw [List.getElem?_take] at hj
      split at hj
      · exact hj
      · cases hj
    · cases hj
  · cases hm
    obtain ⟨a, h1, h2, h3⟩ := hR.cell j ((L[j]).den e) (by simp only [Con.cell]; rw [List.getElem?_eq_getElem hj]; rfl)
    exact ⟨a, _, h1, h2, h3⟩

/-- a value of one cell, as far as is seen -/
def SA.oneB : SA → Bool
  | .v (.int ..) | .v (.bool _) | .v (.slice ..) | .v (.pointer _) => true
  | .v _ => false
  | _ => true
theorem SA.one_ok {x : SA} (h : x.oneB = true) : (x.den e).oneCell' = true := by
  cases x with
  | v x => cases x <;> first | rfl | cases h
  | _ => rfl

/-- what is known grows within its room -/
theorem Rel.fill (h : Rel e w0 W m w) {i N : Nat} {l news : List SA} (hi : m[i]? = some (some ⟨true, .room N l⟩)) {a : Addr} (ha : e i = some a) (h0 : news ≠ []) (hone : news.all SA.oneB = true) (hfit : l.length + news.length ≤ N) :
    ∃ w', (storeCells (a.add l.length) (news.map (SA.den e))).run P w = .ok () w' ∧ Rel e w0 W (m.set i (some ⟨true, .room N (l ++ news)⟩)) w' := by
  have hil : i < m.length := (List.getElem?_eq_some_iff.1 hi).1
  have hR := h.reg i _ hi
  obtain ⟨L, h1, h2, h3⟩ := room_all hR (by omega)
  have hN : 0 < N := by have := List.length_pos_iff.2 h0; omega
  have r1 := h.reknow hi h3 (fun _ => hN) (fun t x I hh => by cases hh)
  have hi1 : (m.set i (some ⟨true, .flat L⟩))[i]? = some (some ⟨true, .flat L⟩) := List.getElem?_set_self hil
  obtain ⟨w', hrun, r2⟩ := r1.write (P := P) (c' := .flat (l ++ news ++ L.drop (l.length + news.length))) hi1 ha (off := l.length) (vs := news.map (SA.den e)) (by simpa using h0)
    (fun v hv => by
      obtain ⟨x, hx, rfl⟩ := List.mem_map.1 hv
      exact SA.one_ok (List.all_eq_true.1 hone x hx))
    (fun j hj => by
      rw [List.length_map] at hj
      have : l.length + j < L.length := by omega
      exact ⟨(L[l.length + j]).den e, by simp only [Con.cell]; rw [List.getElem?_eq_getElem this]; rfl⟩)
    (fun j v hv => by
      simp only [Con.cell] at hv ⊢
      rw [List.length_map]
      split
      · rename_i hin
        rw [List.append_assoc, List.getElem?_append_right hin.1, List.getElem?_append_left (by omega)] at hv
        rw [List.getElem?_map]; exact hv
      · rename_i hout
        rcases Nat.lt_or_ge j l.length with hlt | hge
        · rw [List.append_assoc, List.getElem?_append_left hlt] at hv
          rw [← h2, List.getElem?_take_of_lt hlt] at hv
          exact hv
        · rw [List.getElem?_append_right (by simp; omega), List.getElem?_drop] at hv
          rw [show l.length + news.length + (j - (l ++ news).length) = j by simp; omega] at hv
          exact hv)
    (fun es k hh => by cases hh)
  refine ⟨w', hrun, ?_⟩
  rw [List.set_set] at r2
  have hi2 : (m.set i (some ⟨true, .flat (l ++ news ++ L.drop (l.length + news.length))⟩))[i]? = some (some ⟨true, .flat (l ++ news ++ L.drop (l.length + news.length))⟩) := List.getElem?_set_self hil
  have r3 := r2.reknow hi2 (flat_room (r2.reg i _ hi2) (l.length + news.length)) (fun _ hh => by
    have := congrArg List.length hh
    simp at this
    exact h0 this.2.1) (fun t x I hh => by cases hh)
  rw [List.set_set] at r3
  have e1 : (l ++ news ++ L.drop (l.length + news.length)).length = N := by simp; omega
  have e2 : (l ++ news ++ L.drop (l.length + news.length)).take (l.length + news.length) = l ++ news := by
    rw [← List.length_append, List.take_left]
  rw [e1, e2] at r3
  exact r3

theorem zeroCells_size (z : Array Value) (k : Nat) : (Builtin.zeroCells z k).size = k * z.size := by simp [Builtin.zeroCells]
/-- a new block with room behind what is known -/
theorem room_new {l : List SA} {zs : Array Value} {t : TypeId} {N : Nat} (hN : l.length + zs.size = N) :
    RegOK e' (w.alloc (.cells ((l.map (SA.den e')).toArray ++ zs) t)) (some ⟨w.heap.size, 0, none⟩) ⟨true, .room N l⟩ := by
  refine ⟨fun j v hv => ⟨_, rfl, ?_, fun _ => frozen_new _ _ _ _⟩, fun n l2 hm j hj => ?_⟩
  · rw [cell_new]
    simp only [Con.cell] at hv
    split at hv
    · rw [← List.getElem?_map] at hv
      have hlt := (List.getElem?_eq_some_iff.1 hv).1
      rw [Array.getElem?_append_left (by simpa using hlt)]
      simpa using hv
    · cases hv
  · cases hm
    have hlt : j < ((l.map (SA.den e')).toArray ++ zs).size := by simp; omega
    refine ⟨_, (((l.map (SA.den e')).toArray ++ zs)[j]), rfl, ?_, fun _ => frozen_new _ _ _ _⟩
    rw [cell_new, Array.getElem?_eq_getElem hlt]

/-- rows known cell by cell, laid behind nothing, or behind such rows: with room behind them -/
def apR : XAct P where
  act := fun S o => match o.op with
    | .call { callee := .builtin .append, args, argTypes } => (match args.toList, argTypes.toList with
      | [x, y], [t, u] => (match Nat.beq t u, S.ev y with
        | true, some (.one (.a (.slc j st 0 k _))) => (match P.underlying t, S.m.reg j with
          | some (.slice el), some ⟨_, .flat (c :: l)⟩ => (match P.info? el with
            | some inf => (match inf.zero with
              | some z => (match Nat.beq (l.length + 1) (k * st), Nat.beq st inf.size, Nat.beq st z.cells.size, Nat.blt 0 k, Nat.ble k 1000, Nat.ble inf.bytes 1024, (c :: l).all SA.oneB with
                | true, true, true, true, true, true, true => (match S.ev x with
                  | some (.one (.a (.v (.slice none 0 0)))) => some (none, [.fam Nat (fun cap => k ≤ cap ∧ cap ≤ 9223372036854775807) (fun cap => .one (.a (.slc S.m.length st 0 k cap))) (fun cap => S.m ++ [some ⟨true, .room (cap * st) (c :: l)⟩])])
                  | some (.one (.a (.slc i st' 0 n cap))) => (match S.m.reg i with
                    | some ⟨true, .room N r⟩ => (match Nat.beq st st', Nat.beq r.length (n * st), Nat.ble n 1000, Nat.beq i j with
                      | true, true, true, false => some (some (N = cap * st ∧ n ≤ cap), [.cond (n + k ≤ cap) (.one (.a (.slc i st 0 (n + k) cap))) (S.m.set i (some ⟨true, .room N (r ++ c :: l)⟩)),
                          .fam Nat (fun cap' => n + k ≤ cap' ∧ cap' ≤ 9223372036854775807) (fun cap' => .one (.a (.slc S.m.length st 0 (n + k) cap'))) (fun cap' => S.m ++ [some ⟨true, .room (cap' * st) (r ++ c :: l)⟩])])
                      | _, _, _, _ => none)
                    | _ => none)
                  | _ => none)
                | _, _, _, _, _, _, _ => none)
              | none => none)
            | none => none)
          | _, _ => none)
        | _, _ => none)
      | _, _ => none)
    | _ => none
  sound := fun S o ob ll hact hob hok e w0 W w a hrel ht => by
    split at hact
    · rename_i args ats hop
      split at hact
      · rename_i x y t u hargs hats
        split at hact
        · rename_i j st k cy htu hy
          split at hact
          · rename_i el rw c l hd hreg
            split at hact
            · rename_i inf hinf
              split at hact
              · rename_i z hz
                split at hact
                · rename_i hlen hst hzs hk hk2 hby hone
                  have htu := Nat.beq_iff.1 htu
                  have hlen := Nat.beq_iff.1 hlen
                  have hst := Nat.beq_iff.1 hst
                  have hzs := Nat.beq_iff.1 hzs
                  have hk := blt_iff.1 hk
                  have hk2 := Nat.ble_iff.1 hk2
                  have hby := Nat.ble_iff.1 hby
                  subst htu; subst hst
                  simp only [St.ok, Bool.and_eq_true] at hok
                  have hmj := reg_of hreg
                  have hR := hrel.reg j _ hmj
                  obtain ⟨A, hA, _⟩ := hR.cell 0 (c.den e) rfl
                  obtain ⟨news, hnews⟩ : ∃ news, news = (c :: l).map (SA.den e) := ⟨_, rfl⟩
                  have hnl : news.length = k * inf.size := by rw [hnews, List.length_map, List.length_cons, hlen]
                  have hcell : ∀ jj v, news[jj]? = some v → w.cell? (A.add jj) = some v := fun jj v hv => by
                    obtain ⟨A', hA', hc, _⟩ := hR.cell jj v (by
                      show ((c :: l)[jj]?).map (SA.den e) = some v
                      rw [← List.getElem?_map, ← hnews]; exact hv)
                    rw [hA] at hA'; cases hA'
                    exact hc
                  have hye := evOk ht hy
                  simp only [SV.den, SV1.den] at hye
                  rw [slc_den0, hA] at hye
                  have ha' : args = #[x, y] := by apply Array.toList_inj.1; simpa using hargs
                  have hat' : ats = #[t, t] := by apply Array.toList_inj.1; simpa using hats
                  subst ha'; subst hat'
                  have hlj : j < S.m.length := (List.getElem?_eq_some_iff.1 hmj).1
                  have hag : ∀ i, i < S.m.length → (fun i => if i = S.m.length then some (⟨w.heap.size, 0, none⟩ : Addr) else e i) i = e i := fun i hi => by
                    show (if i = S.m.length then _ else e i) = _
                    rw [if_neg (by omega)]
                  have hn : (fun i => if i = S.m.length then some (⟨w.heap.size, 0, none⟩ : Addr) else e i) S.m.length = some ⟨w.heap.size, 0, none⟩ := by simp
                  have hden : ∀ q : List SA, q.all (SA.ok S.m.length) = true → q.map (SA.den fun i => if i = S.m.length then some (⟨w.heap.size, 0, none⟩ : Addr) else e i) = q.map (SA.den e) := fun q hq => List.map_congr_left fun x hx => SA.congr hag (List.all_eq_true.1 hq x hx)
                  have hokj : (c :: l).all (SA.ok S.m.length) = true := Mem.ok_get hok.2 hmj
                  split at hact
                  · rename_i hx
                    cases hact
                    have he := evOk ht hx
                    simp only [SV.den, SV1.den] at he
                    have hrun := fun ty => run_append_nil (P := P) w t ty el inf z hd hinf hz A k cy news hnl hcell hk (by omega) (by have := Nat.mul_le_mul hk2 hby; omega)
                    have hge := grownCap_ge w k 0 el
                    refine ⟨_, _, .inl (by simp only [execOp, hop, resolve, invoke, builtin, List.map_toArray, List.map_cons, List.map_nil, he, hye, SA.den, Sem.run_bind, Sem.run_pure, Result.andThen_ok, hrun]; rfl), _, List.mem_cons_self, grownCap w k 0 el, ⟨by omega, grownCap_le_maxLen w k 0 el (by simp only [maxLen]; omega)⟩, _, hag, ?_, ?_⟩
                    · simp [SV.den, SV1.den, slc_den0]
                    · refine hrel.drew.alloc hag hn hok.2 ?_
                      have := room_new (e' := fun i => if i = S.m.length then some (⟨w.heap.size, 0, none⟩ : Addr) else e i) (w := w.drew) (l := c :: l) (zs := Builtin.zeroCells z.cells (grownCap w k 0 el - k)) (t := el) (N := grownCap w k 0 el * inf.size) (by
                        rw [zeroCells_size, List.length_cons, hlen, ← hzs, ← Nat.add_mul]
                        congr 1; omega)
                      rw [hden _ hokj, ← hnews] at this
                      exact this
                  · rename_i i st' n cap hx
                    split at hact
                    · rename_i N r hregi
                      split at hact
                      · rename_i hst2 hrl hn1 hij
                        have hst2 := Nat.beq_iff.1 hst2
                        have hrl := Nat.beq_iff.1 hrl
                        have hn1 := Nat.ble_iff.1 hn1
                        subst hst2
                        cases hact
                        obtain ⟨hN, hnc⟩ : N = cap * inf.size ∧ n ≤ cap := hob
                        have hmi := reg_of hregi
                        have hli : i < S.m.length := (List.getElem?_eq_some_iff.1 hmi).1
                        have hRi := hrel.reg i _ hmi
                        have he := evOk ht hx
                        simp only [SV.den, SV1.den] at he
                        rw [slc_den0] at he
                        have hoki : r.all (SA.ok S.m.length) = true := Mem.ok_get hok.2 hmi
                        have hst0 : 0 < inf.size := by
                          rcases Nat.eq_zero_or_pos inf.size with h9 | h9
                          · rw [h9, Nat.mul_zero] at hlen; omega
                          · exact h9
                        by_cases hroom : n + k ≤ cap
                        · have hfit : r.length + (c :: l).length ≤ N := by
                            rw [hrl, List.length_cons, hlen, hN, ← Nat.add_mul]; exact Nat.mul_le_mul_right _ hroom
                          have hN0 : 0 < N := by rw [List.length_cons] at hfit; omega
                          obtain ⟨B, _, hB, _⟩ := hRi.map N r rfl 0 hN0
                          obtain ⟨w', hst', hrel'⟩ := hrel.fill (P := P) hmi hB (news := c :: l) (by simp) hone hfit
                          rw [hrl, ← hnews] at hst'
                          have hrun := fun ty => run_append_in (P := P) (w := w) (c' := cy) hd hinf hnl hcell hroom hst' ty
                          rw [hB] at he
                          refine ⟨_, _, .inl (by simp only [execOp, hop, resolve, invoke, builtin, List.map_toArray, List.map_cons, List.map_nil, he, hye, SA.den, Sem.run_bind, Sem.run_pure, Result.andThen_ok, hrun]; rfl), _, List.mem_cons_self, hroom, e, fun _ _ => rfl, ?_, hrel'⟩
                          simp [SV.den, SV1.den, slc_den0, hB]
                        · have hcells : ∀ jj v, (r.map (SA.den e))[jj]? = some v → ∃ B, e i = some B ∧ w.cell? (B.add jj) = some v := fun jj v hv => by
                            have hjl := (List.getElem?_eq_some_iff.1 hv).1
                            rw [List.length_map, hrl] at hjl
                            obtain ⟨B, hB, hc, _⟩ := hRi.cell jj v (by
                              simp only [Con.cell]
                              rw [if_pos (by rw [hN]; exact Nat.lt_of_lt_of_le hjl (Nat.mul_le_mul_right _ hnc)), ← List.getElem?_map]; exact hv)
                            exact ⟨B, hB, hc⟩
                          have hge := grownCap_ge w (n + k) cap el
                          have hby2 : (n + k) * inf.bytes ≤ 140737488355328 := Nat.le_trans (Nat.mul_le_mul (show n + k ≤ 2000 by omega) hby) (by decide)
                          have hrun : ∃ v, (∀ ty, (Builtin.append_ #[t, t] ty #[.slice (e i) n cap, .slice (some A) k cy]).run P w = .ok v (w.drew.alloc (.cells ((r.map (SA.den e)).toArray ++ news.toArray ++ Builtin.zeroCells z.cells (grownCap w (n + k) cap el - (n + k))) el))) ∧ v = .slice (some ⟨w.heap.size, 0, none⟩) (n + k) (grownCap w (n + k) cap el) := by
                            refine ⟨_, fun ty => ?_, rfl⟩
                            cases hB : e i with
                            | some B =>
                              refine run_append_grow (P := P) w t ty el inf z hd hinf hz B n cap (r.map (SA.den e)) (by rw [List.length_map, hrl]) (fun jj v hv => ?_) A k cy news hnl hcell (by omega) (by omega) (growslice_fits (by omega) hby2)
                              obtain ⟨B', hB', hc⟩ := hcells jj v hv
                              rw [hB] at hB'; cases hB'
                              exact hc
                            | none =>
                              have hcap : cap = 0 := by
                                rcases Nat.eq_zero_or_pos cap with h8 | h8
                                · exact h8
                                · obtain ⟨B, _, hB', _⟩ := hRi.map N r rfl 0 (by rw [hN]; exact Nat.mul_pos h8 hst0)
                                  rw [hB] at hB'; cases hB'
                              subst hcap
                              obtain rfl : n = 0 := by omega
                              have hr0 : r = [] := List.length_eq_zero_iff.1 (by rw [hrl, Nat.zero_mul])
                              subst hr0
                              rw [Nat.zero_add]
                              have := run_append_nil (P := P) w t ty el inf z hd hinf hz A k cy news hnl hcell hk (by omega) (by have := Nat.mul_le_mul hk2 hby; omega)
                              rw [this]
                              simp
                          obtain ⟨v, hrun, rfl⟩ := hrun
                          refine ⟨_, _, .inl (by simp only [execOp, hop, resolve, invoke, builtin, List.map_toArray, List.map_cons, List.map_nil, he, hye, SA.den, Sem.run_bind, Sem.run_pure, Result.andThen_ok, hrun]; rfl), _, List.mem_cons_of_mem _ List.mem_cons_self, grownCap w (n + k) cap el, ⟨hge, grownCap_le_maxLen w (n + k) cap el (by simp only [maxLen]; omega)⟩, _, hag, ?_, ?_⟩
                          · simp [SV.den, SV1.den, slc_den0]
                          · refine hrel.drew.alloc hag hn hok.2 ?_
                            have := room_new (e' := fun i => if i = S.m.length then some (⟨w.heap.size, 0, none⟩ : Addr) else e i) (w := w.drew) (l := r ++ c :: l) (zs := Builtin.zeroCells z.cells (grownCap w (n + k) cap el - (n + k))) (t := el) (N := grownCap w (n + k) cap el * inf.size) (by
                              rw [zeroCells_size, List.length_append, List.length_cons, hlen, hrl, ← hzs, ← Nat.add_mul, ← Nat.add_mul]
                              congr 1; omega)
                            rw [hden _ (by rw [List.all_append, hoki, hokj]; rfl), List.map_append, ← hnews] at this
                            simpa using this
                      · cases hact
                    · cases hact
                  · cases hact
                · cases hact
              · cases hact
            · cases hact
          · cases hact
        · cases hact
      · cases hact
    · cases hact
end
end Go.Sx

/-
  Part 24: contracts of functions that are told of several regions of the memory that is there, some of which nobody need know.
-/
namespace Go.Sx
open Go.RowKit
section
variable {P : Program} {e : Env} {w0 : World} {W : Nat → Prop} {m : Mem} {w : World}

theorem eff_soundG (hm : P.follows .mixedOrders = true) {f : FuncId} {fn : Func} (hfn : P.funcs[f]? = some fn) {cx : Cx P} {args0 : List SV} {m0 : Mem} (hn0 : cx.n0 = m0.length) {al : List Alt} {gs : SV → Mem → List GC} {ren : SV → Mem → List Nat}
    (h : Runs cx fn args0 m0 fun v m' => ghosted gs v m' fun v m' => anyAlt m0 (ren v m') v m' al) (hpl : ∀ a ∈ al, a.plain) {args : List SV} {ρ : List Nat} (hargs : args = args0.map (SV.ren ρ)) (hf : Fits m ρ m0) (hok : Mem.ok m = true)
    (e : Env) (w0 : World) (W : Nat → Prop) (w : World) (hrel : Rel e w0 W m w) : Calls P f (args.map (SV.den e)).toArray w fun r w' => ∃ a ∈ al.map (Alt.lift m ρ), a.Says e m.length w0 W r w' := by
  have ha : args.map (SV.den e) = args0.map (SV.den (renE e ρ)) := by
    rw [hargs, List.map_map]
    exact List.map_congr_left fun x _ => SV.den_ren e ρ x
  rw [ha]
  refine (runs_ghosted hm hfn h (hrel.enter hf) (by omega)).mono fun r w' ⟨v, m', e', h1, h2, h3, h4⟩ => ?_
  obtain ⟨a, hal, hia⟩ := anyAlt_mem h1
  refine ⟨a.lift m ρ, List.mem_map_of_mem hal, ?_⟩
  have hag : ∀ i, i < m0.length → e' i = renE e ρ i := fun i hi => h4 i (by omega)
  have hp := hpl a hal
  cases a with
  | one v2 m2 => exact altOne_after hia hrel hok hf h3 hag h2 hp
  | cond p v2 m2 => exact ⟨hia.1, altOne_after hia.2 hrel hok hf h3 hag h2 hp⟩
  | fam α p v2 m2 =>
    obtain ⟨y, h5, h6⟩ := hia
    exact ⟨y, h5, altOne_after h6 hrel hok hf h3 hag h2 (hp y)⟩

/-- do these regions stand where they are said to, up to what is to be shown? -/
def fitB (m : Mem) (ρ : List Nat) (m0 : Mem) : Option (List Prop) :=
  match Nat.beq ρ.length m0.length, nodupB ρ, ρ.all (fun i => Nat.blt i m.length), plainB m0 with
  | true, true, true, true => subMem ρ m 0 m0
  | _, _, _, _ => none
theorem fitB_ok {m m0 : Mem} {ρ : List Nat} {l : List Prop} (h : fitB m ρ m0 = some l) (hl : Holds l) : Fits m ρ m0 := by
  unfold fitB at h
  split at h
  · rename_i h1 h2 h3 h4
    have h1 := Nat.beq_iff.1 h1
    refine ⟨h1, h2, fun i hi => ?_, fun i r hi => ?_, plainB_ok h4⟩
    · have := List.all_eq_true.1 h3 (rn ρ i) (rn_mem hi)
      exact blt_iff.1 this
    · obtain ⟨y, l', h5, h6, h7⟩ := subMem_get h hl i r hi
      rw [Nat.zero_add] at h5
      obtain ⟨g1, g2, _⟩ := subReg_ok h6
      exact ⟨y, l', reg_of h5, g1, g2, h7⟩
  · cases h

variable {f : FuncId} {fn : Func}
/-- A contract out of a function's body: 'rd' reads what is there, and where. -/
def effN (h : FnOf P f fn) (X : Type) (cx : X → Cx P) (m0 : X → Mem) (args0 : X → List SV) (rd : List SV → Mem → Option (X × List Nat)) (pre : X → Prop) (al : X → List Alt) (gs : SV → Mem → List GC) (ren : X → SV → Mem → List Nat) (hn0 : ∀ x, (cx x).n0 = (m0 x).length)
    (hrd : ∀ as m x ρ, rd as m = some (x, ρ) → as = (args0 x).map (SV.ren ρ)) (hpl : ∀ x, ∀ a ∈ al x, a.plain)
    (hrun : ∀ x, pre x → Runs (cx x) fn (args0 x) (m0 x) fun v m' => ghosted gs v m' fun v m' => anyAlt (m0 x) (ren x v m') v m' (al x)) : ESpec P where
  f := f
  X := X × List Nat × Mem × List Prop
  inp := fun as m => match rd as m with
    | some (x, ρ) => (match fitB m ρ (m0 x) with
      | some l => some (x, ρ, m, l)
      | none => none)
    | none => none
  pre := fun (x, _, _, l) => some (allP l (pre x))
  res := fun (x, ρ, m, _) => (al x).map (Alt.lift m ρ)
  ent := h.ent
  sound := fun as m ⟨x, ρ, m1, l⟩ hy hp hok e w0 W w hrel => by
    split at hy
    · rename_i x' ρ' hr
      split at hy
      · rename_i l' hf
        cases hy
        have hp : allP l (pre x) := hp
        obtain ⟨h1, h2⟩ := allP_iff.1 hp
        exact eff_soundG h.mixed h.at_ (hn0 x) (hrun x h2) (hpl x) (hrd _ _ _ _ hr) (fitB_ok hf h1) hok e w0 W w hrel
      · cases hy
    · cases hy

theorem rdA_off {s : Sp} {x : SA} {a : At} {l : List Src} (h : rdA m s x = some (a, l)) {e0 : Env} {j : Nat} (hs : SrcOK e e0 j l) : ∀ q r, a.mem[q]? = some (some r) → r.con.some_ → ∀ b, e0 (j + q) = some b → ∃ i y c, m[i]? = some (some y) ∧ y.con.some_ ∧ e i = some c ∧ c.block = b.block := by
  unfold rdA at h
  split at h
  · split at h
    · cases h; intro q r hq; simp [At.mem] at hq
    · cases h
  · split at h
    · cases h; intro q r hq; simp [At.mem] at hq
    · cases h
  · rename_i row
    cases h
    intro q r hq hsm b hb
    cases q with
    | zero =>
      simp [At.mem] at hq
      subst hq
      exact absurd hsm.1 (Nat.lt_irrefl 0)
    | succ q => simp [At.mem] at hq
  · rename_i row i st r len cap
    split at h
    · rename_i rw N cols hreg
      split at h
      · rename_i hst hlk
        cases h
        intro q y hq hsm b hb
        cases q with
        | zero =>
          simp [At.mem] at hq
          subst hq
          have h0 := hs 0 _ rfl
          rw [Nat.add_zero] at h0 hb
          rw [h0] at hb
          simp only [Src.den, at_, Option.map_eq_some_iff] at hb
          obtain ⟨c, hc, rfl⟩ := hb
          exact ⟨i, _, c, reg_of hreg, ⟨by have := hsm.1; omega, fun hh => hsm.2 (by rw [hh]; rfl)⟩, hc, by rw [add_block]⟩
        | succ q => simp [At.mem] at hq
      · cases h
    · cases h
  · cases h

/-- the blocks of the arguments are the caller's -/
def OffOK (m : Mem) (e e0 : Env) (j : Nat) (m1 : Mem) : Prop := ∀ (q : Nat) (r : Reg), m1[q]? = some (some r) → r.con.some_ → ∀ b, e0 (j + q) = some b → ∃ i y c, m[i]? = some (some y) ∧ y.con.some_ ∧ e i = some c ∧ c.block = b.block
theorem OffOK.app {e e0 : Env} {j : Nat} {l r : Mem} (h1 : OffOK m e e0 j l) (h2 : OffOK m e e0 (j + l.length) r) : OffOK m e e0 j (l ++ r) := fun q x hq => by
  rcases Nat.lt_or_ge q l.length with hlt | hge
  · rw [List.getElem?_append_left hlt] at hq
    exact h1 q x hq
  · rw [List.getElem?_append_right hge] at hq
    have := h2 _ x hq
    rwa [show j + l.length + (q - l.length) = j + q by omega] at this

theorem rdAs_off (hrel : Rel e w0 W m w) : ∀ {ss : List Sp} {xs : List SA} {ar : List At} {l : List Src}, rdAs m ss xs = some (ar, l) → ∀ {e0 : Env} {j : Nat}, SrcOK e e0 j l → OffOK m e e0 j (memAs ar)
  | [], [], _, _, h, _, j, _ => by cases h; intro q r hq; simp [memAs] at hq
  | s :: ss, x :: xs, ar, l, h, e0, j, hs => by
    simp only [rdAs] at h
    split at h
    · rename_i a l1 as' l2 h1 h2
      cases h
      obtain ⟨_, h4, _⟩ := rdA_ok hrel h1 hs.left
      have hr := hs.right
      rw [h4] at hr
      exact OffOK.app (rdA_off h1 hs.left) (by rw [At.mem_len]; exact rdAs_off hrel h2 hr)
    · cases h
  | [], _ :: _, _, _, h, _, _, _ => by cases h
  | _ :: _, [], _, _, h, _, _, _ => by cases h

theorem rdArgs_off (hrel : Rel e w0 W m w) : ∀ {ss : List Sp1} {xs : List SV} {ar : List Ar} {l : List Src}, rdArgs m ss xs = some (ar, l) → ∀ {e0 : Env} {j : Nat}, SrcOK e e0 j l → OffOK m e e0 j (mkMem ar)
  | [], [], _, _, h, _, j, _ => by cases h; intro q r hq; simp [mkMem] at hq
  | s :: ss, x :: xs, ar, l, h, e0, j, hs => by
    simp only [rdArgs] at h
    split at h
    · rename_i a l1 as' l2 h1 h2
      cases h
      obtain ⟨_, h4, _⟩ := rdV_ok hrel h1 hs.left
      have hr := hs.right
      rw [h4] at hr
      refine OffOK.app ?_ (by rw [Ar.mem_len]; exact rdArgs_off hrel h2 hr)
      unfold rdV at h1
      split at h1
      · split at h1
        · rename_i a' l' h3
          cases h1
          exact rdA_off h3 hs.left
        · cases h1
      · split at h1
        · rename_i a' l' h3
          cases h1
          exact rdAs_off hrel h3 hs.left
        · cases h1
      · cases h1
    · cases h
  | [], _ :: _, _, _, h, _, _, _ => by cases h
  | _ :: _, [], _, _, h, _, _, _ => by cases h

theorem mkMem_noobj {ar : List Ar} {e0 : Env} {j : Nat} (h : MemOK e0 w j (mkMem ar)) : ∀ i x I, ¬ IsO (mkMem ar) i x I := fun i x I ⟨t, hi⟩ => by
  have := (h i _ hi).1; cases this

/-- an object's memory, and arguments behind it -/
theorem Rel.behind {e1 e0 : Env} {Fi : Nat → Prop} {m1 : Mem} {ar : List Ar} (h : Rel e1 w Fi m1 w) (hmo : Mem.ok m1 = true) (hlt : ∀ b, Fi b → b < w.heap.size) (hrw : ∀ (i : Nat) (r : Reg), m1[i]? = some (some r) → r.rw = true) (hag : ∀ i, i < m1.length → e0 i = e1 i) (hA : MemOK e0 w m1.length (mkMem ar))
    (hoff : ∀ (q : Nat) (r : Reg), (mkMem ar)[q]? = some (some r) → r.con.some_ → ∀ b, e0 (m1.length + q) = some b → ¬ Fi b.block) : Rel e0 w Fi (m1 ++ mkMem ar) w := by
  have hcase : ∀ (i : Nat) (r : Reg), (m1 ++ mkMem ar)[i]? = some (some r) → (i < m1.length ∧ m1[i]? = some (some r)) ∨ ∃ q, i = m1.length + q ∧ (mkMem ar)[q]? = some (some r) := by
    intro i r hi
    rcases Nat.lt_or_ge i m1.length with hlt | hge
    · rw [List.getElem?_append_left hlt] at hi; exact .inl ⟨hlt, hi⟩
    · rw [List.getElem?_append_right hge] at hi; exact .inr ⟨i - m1.length, by omega, hi⟩
  have hFi : ∀ (i : Nat) (r : Reg) (a : Addr), m1[i]? = some (some r) → r.con.some_ → e1 i = some a → Fi a.block := fun i r a hi hs ha => by
    have hR := h.reg i r hi
    rw [ha] at hR
    have := hR.lt hs
    rcases h.wr i r a hi (hrw i r hi) hs ha with h1 | h1
    · exact h1
    · omega
  obtain ⟨G, hG⟩ := h.obj
  have hO : ∀ {i x I}, IsO (m1 ++ mkMem ar) i x I → i < m1.length ∧ IsO m1 i x I := fun {i x I} ⟨t, hi⟩ => by
    rcases hcase i _ hi with ⟨h1, h2⟩ | ⟨q, _, h2⟩
    · exact ⟨h1, t, h2⟩
    · exact absurd ⟨t, h2⟩ (mkMem_noobj hA q x I)
  refine ⟨Fr.refl _ _, fun i r hi => ?_, fun i j ri rj a b hij hi hj hri hsi hsj ha hb => ?_, fun i r a hi hr hs ha => ?_, ⟨G, fun {i x I} hi => ?_, fun {i j x y I J b} hij hi hj hb => hG.apart hij (hO hi).2 (hO hj).2 hb, fun {i j x I r a} hi hj hs ha hb => ?_, fun {i x I b} hi hb => hG.wr (hO hi).2 hb⟩, .none fun i t x I hi => by
    rcases hcase i _ hi with ⟨_, h2⟩ | ⟨q, _, h2⟩
    · exact Bool.noConfusion (hrw i _ h2)
    · exact mkMem_plain (List.mem_of_getElem? h2) false t x I rfl⟩
  · rcases hcase i r hi with ⟨h1, h2⟩ | ⟨q, rfl, h2⟩
    · rw [hag i h1]
      have hR := h.reg i r h2
      refine ⟨fun j v hv => ?_, hR.map⟩
      rw [Con.congr hag (Mem.ok_get hmo h2)] at hv
      exact hR.cell j v hv
    · exact (hA q r h2).2
  · rcases hcase i ri hi with ⟨h1, h2⟩ | ⟨q, rfl, h2⟩
    · rw [hag i h1] at ha
      rcases hcase j rj hj with ⟨h3, h4⟩ | ⟨q2, rfl, h4⟩
      · rw [hag j h3] at hb
        exact h.sep i j ri rj a b hij h2 h4 hri hsi hsj ha hb
      · intro heq
        refine hoff q2 rj h4 hsj b hb ?_
        rw [← heq]
        exact hFi i ri a h2 hsi ha
    · have := (hA q ri h2).1
      rw [this] at hri; cases hri
  · rcases hcase i r hi with ⟨h1, h2⟩ | ⟨q, rfl, h2⟩
    · rw [hag i h1] at ha
      exact .inl (hFi i r a h2 hs ha)
    · have := (hA q r h2).1
      rw [this] at hr; cases hr
  · obtain ⟨h1, h2⟩ := hO hi
    rw [hag i h1]
    exact hG.ok h2
  · obtain ⟨h1, h2⟩ := hO hi
    rcases hcase j r hj with ⟨h3, h4⟩ | ⟨q, rfl, h4⟩
    · rw [hag j h3] at ha
      exact hG.off h2 h4 hs ha hb
    · refine hoff q r h4 hs a ha ?_
      have h5 := I.lt (hG.ok h2) _ hb
      rcases hG.wr h2 hb with h6 | h6
      · exact h6
      · omega

theorem obj_coreS (hm : P.follows .mixedOrders = true) {f : FuncId} {fn : Func} (hfn : P.funcs[f]? = some fn) {K : ObK} {cx : K.Hid → Cx P} (hn0 : ∀ hd, (cx hd).n0 = 1) {sh : List Sp1} {ars : List Ar} {x : Pay} {n : Nat} (hn : ∀ hd, (K.mem x hd).length = n) (hmo : ∀ hd, Mem.ok (K.mem x hd) = true) {al : List OAlt} {gs : SV → Mem → List GC} {ren : SV → Mem → List Nat}
    (h : ∀ hd, K.inv x hd → Runs (cx hd) fn (.one (.a (.ptr 0 0)) :: mkArgs n ars) (K.mem x hd ++ mkMem ars) fun v m' => ghosted gs v m' fun v m' => anyO K (ren v m') v m' al) {i t : Nat} (hi : m[i]? = some (some ⟨true, .obj t x (boxI K)⟩)) {args : List SV} {srcs : List Src} (hrd : rdArgs m sh args = some (ars, srcs))
    (e : Env) (w0 : World) (W : Nat → Prop) (w : World) (hrel : Rel e w0 W m w) :
    Calls P f ((SV.one (.a (.ptr i 0)) :: args).map (SV.den e)).toArray w fun r w' => ∃ a ∈ al, a.holds fun v2 x2 => r = .returned (v2.den e) ∧ Rel e w0 W (m.set i (some ⟨true, .obj t x2 (boxI K)⟩)) w' := by
  obtain ⟨F, hF⟩ := hrel.obj
  have hO : IsO m i x (boxI K) := ⟨t, hi⟩
  have hil := hO.lt
  obtain ⟨hd, e1, hinv, h0, hr0, hlt⟩ := hF.ok hO
  obtain ⟨c0, l0, hh⟩ := K.head x hd
  have hlen : 1 ≤ (K.mem x hd).length := (List.getElem?_eq_some_iff.1 hh).1
  have hn := hn hd
  let e0 : Env := fun q => if q < n then e1 q else match srcs[q - n]? with | some s => s.den e | none => none
  have hs : SrcOK e e0 n srcs := fun q s hq => by
    show (if n + q < n then _ else match srcs[n + q - n]? with | some s => s.den e | none => none) = _
    rw [if_neg (by omega), Nat.add_sub_cancel_left, hq]
  obtain ⟨ha, h2, h3⟩ := rdArgs_ok (e0 := e0) hrel hrd hs
  have hr1 : Rel e0 w (F i) (K.mem x hd ++ mkMem ars) w := hr0.behind (hmo hd) hlt (K.rw x hd) (fun q hq => if_pos (by omega)) (by rw [hn]; exact h2) (fun q r hq hsm b hb => by
    obtain ⟨i', y, c, g1, g2, g3, g4⟩ := rdArgs_off hrel hrd hs q r hq hsm b (by rw [← hn]; exact hb)
    rw [← g4]
    exact fun hb => hF.off hO g1 g2 g3 hb)
  have h0 : e0 0 = e i := by show (if 0 < n then e1 0 else _) = _; rw [if_pos (by omega), h0]
  have hden : (SV.one (.a (.ptr i 0)) :: args).map (SV.den e) = (SV.one (.a (.ptr 0 0)) :: mkArgs n ars).map (SV.den e0) := by
    rw [List.map_cons, List.map_cons, ha]
    have h1 : SV.den e (.one (.a (.ptr i 0))) = SV.den e0 (.one (.a (.ptr 0 0))) := by simp only [SV.den, SV1.den, SA.den, at_, h0]
    rw [h1]
  rw [hden]
  refine (runs_ghosted hm hfn (h hd hinv) hr1 (by rw [hn0]; exact Nat.le_trans hlen (by simp))).mono fun r w' ⟨v, m', e', g1, g2, g3, g4⟩ => ?_
  obtain ⟨a, hal, hia⟩ := anyO_mem g1
  refine ⟨a, hal, isO_holds (fun v2 x2 hone => ?_) hia⟩
  obtain ⟨hd2, hinv2, hone⟩ := hone
  split at hone
  · rename_i l h2 h3 h4 h5 h6
    have h3 := Nat.ble_iff.1 h3
    obtain ⟨la, lb, h7, h8, rfl⟩ := app2_some h6
    obtain ⟨h9, h10⟩ := holds_app (allP_iff.1 hone).1
    have hr2 := g3.sub h8 h10 h3 h4
    obtain ⟨G, hG⟩ := hr2.obj
    have hown := hr2.own hG (K.rw x2 hd2)
    have hF2 : ∀ {b}, footB (renE e' (ren v m')) G (K.mem x2 hd2) b → F i b ∨ w.heap.size ≤ b := by
      rintro b (⟨j, rj, aj, hj, hs, haj, rfl⟩ | ⟨j, y, J, hj, hb⟩)
      · exact hr2.wr j rj aj hj (K.rw x2 hd2 j rj hj) hs haj
      · exact hG.wr hj hb
    have hF2lt : ∀ {b}, footB (renE e' (ren v m')) G (K.mem x2 hd2) b → b < w'.heap.size := fun hb => footB_lt hr2 hG hb
    have hhead : renE e' (ren v m') 0 = e i := by
      have := idB_ok h2 0 (by omega)
      show e' (rn _ 0) = _
      rw [show rn (ren v m') 0 = 0 by simp only [rn, List.getD, this, Option.getD_some], g4 0 (by rw [hn0]; omega), h0]
    have hget : ∀ {j r}, (m.set i (some ⟨true, .obj t x2 (boxI K)⟩))[j]? = some (some r) → r.con.some_ → j ≠ i ∧ m[j]? = some (some r) := by
      intro j r hj hs
      by_cases hij : i = j
      · subst hij
        rw [List.getElem?_set_self hil] at hj
        cases hj
        exact hs.elim
      · rw [List.getElem?_set_ne hij] at hj
        exact ⟨Ne.symm hij, hj⟩
    have hIO : ∀ {j y J}, IsO (m.set i (some ⟨true, .obj t x2 (boxI K)⟩)) j y J → (j = i ∧ y = x2 ∧ J = boxI K) ∨ (j ≠ i ∧ IsO m j y J) := by
      rintro j y J ⟨t', hj⟩
      by_cases hij : i = j
      · subst hij
        rw [List.getElem?_set_self hil] at hj
        cases hj
        exact .inl ⟨rfl, rfl, rfl⟩
      · rw [List.getElem?_set_ne hij] at hj
        exact .inr ⟨Ne.symm hij, t', hj⟩
    refine ⟨?_, ⟨g3.fr.os.trans hrel.fr.os, g3.fr.tape.trans hrel.fr.tape, g3.fr.output.trans hrel.fr.output, Nat.le_trans hrel.fr.size g3.fr.size, fun b hb hW => ?_⟩, fun j r hj => ?_, fun q j rq rj a b hqj hq hj hrw hsq hsj ha hb => ?_, fun q r a hq hrw hsq ha => ?_,
      ⟨fun j b => if j = i then footB (renE e' (ren v m')) G (K.mem x2 hd2) b else F j b, fun {j y J} hj => ?_, fun {q j y z I J b} hqj hq hj hb hb2 => ?_, fun {q j y I r a} hq hj hs ha hb => ?_, fun {q y I b} hq hb => ?_⟩, hrel.ro.set i fun t x I hh => by cases hh⟩
    · rw [g2, ← eqSV_den (e := e') h7 h9]
      exact congrArg Ending.returned (SV.congr (n := 0) (fun i hi => absurd hi (Nat.not_lt_zero i)) h5)
    · have hsz := hrel.fr.size
      rw [g3.fr.block b (by omega) fun hFb => ?_]
      · exact hrel.fr.block b hb hW
      · rcases hF.wr hO hFb with h11 | h11
        · exact hW h11
        · omega
    · by_cases hij : i = j
      · subst hij
        rw [List.getElem?_set_self hil] at hj
        cases hj
        exact ⟨fun j v hv => (by cases hv), fun es k hm => (by cases hm)⟩
      · rw [List.getElem?_set_ne hij] at hj
        have hR := hrel.reg j r hj
        refine hR.keep fun a ha hs => g3.fr.block _ ?_ fun hFb => hF.off hO hj hs ha hFb
        rw [ha] at hR
        exact hR.lt hs
    · obtain ⟨_, h11⟩ := hget hq hsq
      obtain ⟨_, h12⟩ := hget hj hsj
      exact hrel.sep q j rq rj a b hqj h11 h12 hrw hsq hsj ha hb
    · obtain ⟨_, h11⟩ := hget hq hsq
      exact hrel.wr q r a h11 hrw hsq ha
    · rcases hIO hj with ⟨rfl, rfl, rfl⟩ | ⟨h11, h12⟩
      · simp only [if_pos]
        exact ⟨hd2, _, hinv2, hhead, hown, fun b hb => hF2lt hb⟩
      · simp only [if_neg h11]
        exact J.frame (hF.ok h12) g3.fr.size fun b hb => g3.fr.block b (J.lt (hF.ok h12) b hb) fun hFb => hF.apart h11 h12 hO hb hFb
    · rcases hIO hq with ⟨rfl, rfl, rfl⟩ | ⟨h11, h12⟩ <;> rcases hIO hj with ⟨rfl, rfl, rfl⟩ | ⟨h13, h14⟩
      · exact hqj rfl
      · rw [if_pos rfl] at hb
        rw [if_neg h13] at hb2
        rcases hF2 hb with h15 | h15
        · exact hF.apart hqj hO h14 h15 hb2
        · have := J.lt (hF.ok h14) b hb2
          omega
      · rw [if_neg h11] at hb
        rw [if_pos rfl] at hb2
        rcases hF2 hb2 with h15 | h15
        · exact hF.apart hqj h12 hO hb h15
        · have := I.lt (hF.ok h12) b hb
          omega
      · rw [if_neg h11] at hb
        rw [if_neg h13] at hb2
        exact hF.apart hqj h12 h14 hb hb2
    · obtain ⟨_, h16⟩ := hget hj hs
      rcases hIO hq with ⟨rfl, rfl, rfl⟩ | ⟨h11, h12⟩
      · rw [if_pos rfl] at hb
        rcases hF2 hb with h15 | h15
        · exact hF.off hO h16 hs ha h15
        · have hR := hrel.reg j r h16
          rw [ha] at hR
          have := hR.lt hs
          omega
      · rw [if_neg h11] at hb
        exact hF.off h12 h16 hs ha hb
    · rcases hIO hq with ⟨rfl, rfl, rfl⟩ | ⟨h11, h12⟩
      · rw [if_pos rfl] at hb
        rcases hF2 hb with h15 | h15
        · exact hF.wr hO h15
        · have := hrel.fr.size
          right; omega
      · rw [if_neg h11] at hb
        exact hF.wr h12 hb
  · exact hone.elim


/-- A method of an object that also takes slices, which it only reads. -/
def obS {f : FuncId} {fn : Func} (h : FnOf P f fn) (t n : Nat) (K : ObK) {X Y : Type} (sg : Sig Y) (rdP : Pay → Option X) (mkP : X → Pay) (hP : ∀ p x, rdP p = some x → p = mkP x) (hn : ∀ x hd, (K.mem (mkP x) hd).length = n) (hmo : ∀ x hd, Mem.ok (K.mem (mkP x) hd) = true) (cx : X → Y → K.Hid → Cx P) (pre : X → Y → Prop) (alts : X → Y → List OAlt)
    (gs : SV → Mem → List GC) (ren : SV → Mem → List Nat) (hn0 : ∀ x y hd, (cx x y hd).n0 = 1)
    (hrun : ∀ x y, pre x y → ∀ hd, K.inv (mkP x) hd → Runs (cx x y hd) fn (.one (.a (.ptr 0 0)) :: mkArgs n (sg.arg y)) (K.mem (mkP x) hd ++ mkMem (sg.arg y)) fun v m' => ghosted gs v m' fun v m' => anyO K (ren v m') v m' (alts x y)) : ESpec P where
  f := f
  X := Nat × Mem × ObjI × X × Y
  inp := fun ar m => match ar with
    | .one (.a (.ptr i 0)) :: ar => (match m[i]? with
      | some (some ⟨true, .obj t' p I⟩) => (match Nat.beq t t', rdP p, rdArgs m sg.sh ar with
        | true, some x, some (ars, _) => (match sg.pat ars with | some y => some (i, m, I, x, y) | none => none)
        | _, _, _ => none)
      | _ => none)
    | _ => none
  pre := fun (_, _, I, x, y) => some (I = boxI K ∧ pre x y)
  res := fun (i, m, _, x, y) => (alts x y).map (OAlt.lift m i t K)
  ent := h.ent
  sound := fun ar m ⟨i, m1, I, x, y⟩ hy hp hok e w0 W w hrel => by
    obtain ⟨hI, hp⟩ := hp
    subst hI
    split at hy
    · rename_i i' bs
      split at hy
      · rename_i t' p I' hi
        split at hy
        · rename_i x' ars srcs ht hx hr
          split at hy
          · rename_i y' hpat
            cases hy
            have ht := Nat.beq_iff.1 ht
            subst ht
            obtain rfl := hP _ _ hx
            obtain rfl := sg.ok _ _ hpat
            refine (obj_coreS h.mixed h.at_ (hn0 x y) (hn x) (hmo x) (hrun x y hp) hi hr e w0 W w hrel).mono fun r w' ⟨a, ha, hh⟩ => ⟨a.lift m i t K, List.mem_map_of_mem ha, ?_⟩
            cases a with
            | one v2 x2 => exact ⟨e, fun _ _ => rfl, hh.1, hh.2⟩
            | cond p v2 x2 => exact ⟨hh.1, e, fun _ _ => rfl, hh.2.1, hh.2.2⟩
            | fam α p v2 x2 => obtain ⟨z, h1, h2, h3⟩ := hh; exact ⟨z, h1, e, fun _ _ => rfl, h2, h3⟩
          · cases hy
        · cases hy
      · cases hy
    · cases hy
end
end Go.Sx

/-
  Part 25: arguments that come in: slices of structs that hold slices.
-/
namespace Go.Sx
open Go.RowKit Go.WideShapes Go.ChangeShapes Go.Deep

def shFields (P : Program) (f : TypeId → Option (List Sh)) : List Field → Nat → Option (List Sh)
  | [], _ => some []
  | x :: l, off => (match Nat.beq x.offset off, f x.type with
    | true, some s => (match Nat.beq (P.cellsOf x.type) s.length, shFields P f l (off + s.length) with | true, some r => some (s ++ r) | _, _ => none)
    | _, _ => none)
/-- the cells of a type: numbers, bools, slices of such -/
def shOf (P : Program) : Nat → TypeId → Option (List Sh)
  | 0, _ => none
  | d + 1, t => (match P.underlying t with
    | some (.slice el) => (match rowOf P d el with | some row => (match Nat.beq (P.cellsOf el) row.length with | true => some [.sl row] | false => none) | none => none)
    | some (.struct fs) => (match shFields P (shOf P d) fs.toList 0 with | some l => (match Nat.beq (P.cellsOf t) l.length with | true => some l | false => none) | none => none)
    | _ => (match rowOf P (d + 1) t with | some l => some (l.map .num) | none => none))

section
variable {P : Program} {H : Type} {enc : TypeId × Value → H} {w : World} {base : Nat} {spare : Nat → Bool} {held : Bool}

theorem sh_open : ∀ (d : Nat) {t : TypeId} {ss : List Sh}, shOf P d t = some ss → ∀ {fuel : Nat} {cs : List Value} {x : DataW H × List MemPlace}, DataW.trod enc P w base spare held fuel t cs = some x →
    cs.length = ss.length ∧ ∀ (j : Nat) (k : Sh), ss[j]? = some k → ∃ v, cs[j]? = some v ∧ CellIs w v k
  | 0, t, ss, h, _, _, _, _ => by cases h
  | d + 1, t, ss, h, fuel, cs, x, hx => by
    simp only [shOf] at h
    split at h
    · rename_i el hd
      split at h
      · rename_i row hrow
        split at h
        · rename_i hcl
          cases h
          obtain ⟨v, A, n, cap, rfl, hs⟩ := slice_cells hd hrow (Nat.beq_iff.1 hcl) hx
          refine ⟨rfl, fun j k hj => ?_⟩
          cases j with
          | zero => simp at hj; subst hj; exact ⟨v, rfl, A, n, cap, hs⟩
          | succ j => simp at hj
        · cases h
      · cases h
    · rename_i fs hd
      split at h
      · rename_i l hl0
        split at h
        · rename_i hlen
          cases h
          have hlen := Nat.beq_iff.1 hlen
          obtain ⟨xs, n, _, _, hl, hxl, hfs⟩ := DataW.trod_struct hd hx
          refine ⟨by rw [← hlen]; exact hl, ?_⟩
          have key : ∀ (fl : List Field) (off : Nat) (l : List Sh), shFields P (shOf P d) fl off = some l → (∀ f ∈ fl, ∃ y, DataW.trod enc P w base spare held n f.type ((cs.drop f.offset).take (P.cellsOf f.type)) = some y) →
              ∀ (j : Nat) (k : Sh), l[j]? = some k → ∃ v, cs[off + j]? = some v ∧ CellIs w v k := by
            intro fl
            induction fl with
            | nil => intro off l hl _ j k hj; cases hl; simp at hj
            | cons f fl ih =>
              intro off l hl hfs j k hj
              simp only [shFields] at hl
              split at hl
              · rename_i s ho hs
                split at hl
                · rename_i r hc hr
                  cases hl
                  have ho := Nat.beq_iff.1 ho
                  have hc := Nat.beq_iff.1 hc
                  obtain ⟨y, hy⟩ := hfs f List.mem_cons_self
                  obtain ⟨h1, h2⟩ := sh_open d hs hy
                  rw [List.getElem?_append] at hj
                  by_cases hjs : j < s.length
                  · rw [if_pos hjs] at hj
                    obtain ⟨v, hv, hn⟩ := h2 j k hj
                    rw [List.getElem?_take, if_pos (by omega), List.getElem?_drop, ho] at hv
                    exact ⟨v, hv, hn⟩
                  · rw [if_neg hjs] at hj
                    obtain ⟨v, hv, hn⟩ := ih _ _ hr (fun g hg => hfs g (List.mem_cons_of_mem _ hg)) _ k hj
                    exact ⟨v, by rw [← hv]; congr 1; omega, hn⟩
                · cases hl
              · cases hl
          intro j k hj
          have := key fs.toList 0 _ hl0 (fun f hf' => by
            obtain ⟨i, hi, rfl⟩ := List.getElem_of_mem hf'
            have hi' : i < fs.size := by simpa using hi
            have h3 := hfs i fs[i] (Array.getElem?_eq_getElem hi')
            exact ⟨xs[i]'(by omega), by rw [show fs.toList[i] = fs[i] by simp]; exact h3.trans (List.getElem?_eq_getElem (by omega))⟩) j k hj
          rwa [Nat.zero_add] at this
        · cases h
      · cases h
    · split at h
      · rename_i l hl
        cases h
        obtain ⟨h1, h2⟩ := row_open (d + 1) hl hx
        refine ⟨by simp [h1], fun j k hj => ?_⟩
        rw [List.getElem?_map] at hj
        cases hlj : l[j]? with
        | none => rw [hlj] at hj; cases hj
        | some k' =>
          rw [hlj] at hj
          cases hj
          exact h2 j k' hlj
      · cases h

def rawC (w : World) (A : Option Addr) (j : Nat) : Value := match A with | some a => (w.cell? (a.add j)).getD (.pointer none) | none => .pointer none
def colM (w : World) (A : Option Addr) (st c : Nat) : Sh → Col
  | .num k => colC w A st c k
  | .sl _ => .val fun r => .slice (slA (rawC w A (r * st + c))) (slN (rawC w A (r * st + c))) (slK (rawC w A (r * st + c)))
def colsM (w : World) (A : Option Addr) (st : Nat) : Nat → List Sh → List Col
  | _, [] => []
  | c, k :: l => colM w A st c k :: colsM w A st (c + 1) l
theorem colsM_len {A : Option Addr} {st : Nat} : ∀ {l : List Sh} {c : Nat}, (colsM w A st c l).length = l.length
  | [], _ => rfl
  | _ :: l, c => by simp [colsM, colsM_len (l := l)]
theorem colsM_get {A : Option Addr} {st : Nat} : ∀ {l : List Sh} {c j : Nat}, (colsM w A st c l)[j]? = (l[j]?).map (colM w A st (c + j))
  | [], _, _ => by simp [colsM]
  | k :: l, c, j => by
    cases j with
    | zero => simp [colsM]
    | succ j =>
      simp only [colsM, List.getElem?_cons_succ]
      rw [colsM_get (l := l)]
      congr 2; omega

/-- A slice that came in: n rows of cells, some of them slices. -/
structure SlcM (w : World) (v : Value) (ss : List Sh) (A : Option Addr) (n cap : Nat) : Prop where
  val : v = .slice A n cap
  le : n ≤ cap
  max : cap ≤ 9223372036854775807
  reg : ∀ e : Env, RegOK e w A ⟨false, .tab n (colsM w A ss.length 0 ss)⟩
  wf : ∀ (c : Nat) (k : IntKind), ss[c]? = some (.num (some k)) → ∀ r, r < n → (Lit.int k (intC w A (r * ss.length + c))).wf = true
  sub : ∀ (c : Nat) (row : List RK), ss[c]? = some (.sl row) → ∀ r, r < n → Slc w (rawC w A (r * ss.length + c)) row (slA (rawC w A (r * ss.length + c))) (slN (rawC w A (r * ss.length + c))) (slK (rawC w A (r * ss.length + c)))

theorem sliceM_open {t el : TypeId} {ss : List Sh} {d : Nat} (ht : P.underlying t = some (.slice el)) (hrow : shOf P d el = some ss) (hcl : P.cellsOf el = ss.length) {v : Value} {r : Reach} {b0 : Nat} (hv : Value.okWide P w r b0 t v) {D : DataW H} {p : List MemPlace} (h : DataW.Trod enc P w base spare held t v D p) :
    ∃ A n cap, SlcM w v ss A n cap := by
  obtain ⟨A, n, cap, rfl⟩ := okWide_slice ht hv
  obtain ⟨fuel, hf⟩ := h
  rcases open_slice ht hf with ⟨h0, _⟩ | ⟨a, len, cap', m, n', D', Pl, h0, hb, hl, hm, hmm, _, hi⟩
  · have : A = none ∧ n = 0 ∧ cap = 0 := by simp [Value.cells] at h0; exact h0
    obtain ⟨rfl, rfl, rfl⟩ := this
    refine ⟨none, 0, 0, rfl, Nat.le_refl _, by omega, fun e => ⟨fun j v hv => ?_, fun es k hk => by cases hk⟩, fun c k _ r hr => by omega, fun c k _ r hr => by omega⟩
    simp [Con.cell] at hv
  · have : A = some a ∧ n = len ∧ cap = cap' := by simp [Value.cells] at h0; exact h0
    obtain ⟨rfl, rfl, rfl⟩ := this
    have hlm : n ≤ m := by rw [hmm]; split <;> omega
    have hcell : ∀ r, r < n → ∀ (c : Nat) (k : Sh), ss[c]? = some k → ∃ u, w.cell? (a.add (r * ss.length + c)) = some u ∧ CellIs w u k := by
      intro r hr c k hk
      obtain ⟨cs', hc, ht'⟩ := hi r (by omega)
      obtain ⟨_, hcl', hat⟩ := World.cells?_some hc
      obtain ⟨h1, h2⟩ := sh_open d hrow ht'
      obtain ⟨u, hu, hn⟩ := h2 c k hk
      have hcr : c < ss.length := (List.getElem?_eq_some_iff.1 hk).1
      have h3 := hat c (by omega)
      rw [add_add, hcl, hu] at h3
      exact ⟨u, h3, hn⟩
    refine ⟨some a, n, cap, rfl, hl, by unfold maxLen at hm; omega, fun e => ⟨fun j v hv => ?_, fun es k hk => by cases hk⟩, fun c k hk r hr => ?_, fun c row hk r hr => ?_⟩
    · simp only [Con.cell, colsM_len] at hv
      split at hv
      · rename_i hlt
        rw [colsM_get, Nat.zero_add] at hv
        cases hk : ss[j % ss.length]? with
        | none => rw [hk] at hv; cases hv
        | some k =>
          rw [hk] at hv
          cases hv
          obtain ⟨u, hu, hn⟩ := hcell _ hlt _ k hk
          have hj : j / ss.length * ss.length + j % ss.length = j := by rw [Nat.mul_comm]; exact Nat.div_add_mod j ss.length
          refine ⟨a, rfl, ?_, fun h => by cases h⟩
          rw [← hj, hu, hj]
          congr 1
          cases k with
          | num k => cases k with
            | some k =>
              obtain ⟨z, rfl, _⟩ := hn
              simp only [colM, colC, Col.at_, intC, hu]
            | none =>
              obtain ⟨z, rfl⟩ := hn
              simp only [colM, colC, Col.at_, boolC, hu]
          | sl row =>
            obtain ⟨A', n', k', hs⟩ := hn
            rw [hs.val] at hu ⊢
            simp only [colM, Col.at_, rawC, hu, Option.getD_some, slA, slN, slK]
      · cases hv
    · obtain ⟨u, hu, z, rfl, hw⟩ := hcell r hr c (.num (some k)) hk
      simp only [intC, hu]; exact hw
    · obtain ⟨u, hu, A', n', k', hs⟩ := hcell r hr c (.sl row) hk
      have hval : rawC w (some a) (r * ss.length + c) = u := by simp only [rawC, hu, Option.getD_some]
      rw [hval]
      have hv := hs.val
      subst hv
      exact hs
end
end Go.Sx

/-
  Part 26: a table's column of slices, each in memory of its own: they are taken out and put back.
-/
namespace Go.Sx
open Go.RowKit

def upd {α : Type} (f : Nat → α) (r : Nat) (v : α) : Nat → α := fun q => if q = r then v else f q
def hlP (x : Pay) : Nat → Nat := x.ng.getD 0 fun _ => 0
def hcP (x : Pay) : Nat → Nat := x.ng.getD 1 fun _ => 0
def hdP (x : Pay) : Nat → Nat → Int := x.g2.getD 0 fun _ _ => 0
/-- how long each is, what room it has, what it holds; which are out -/
def mkL (hl hc : Nat → Nat) (hd : Nat → Nat → Int) (ns : List Nat) : Pay := { ns := ns, ng := [hl, hc], g2 := [hd] }
def LsAt (V : Nat → Value) (x : Pay) (w : World) (F : Nat → Prop) (q : Nat) : Prop := ∃ B, V q = .slice B (hlP x q) (hcP x q) ∧ (∀ e, RegOK e w B ⟨true, .tab (hcP x q) [.int .i64 (hdP x q)]⟩) ∧ ∀ b, B = some b → 0 < hcP x q → F b.block
/-- of the slices V 0 .. V (n - 1), but those that are out: each in blocks of its own -/
def listI (n : Nat) (V : Nat → Value) : ObjI where
  ok := fun x w A F => (∃ a, A = some a) ∧ (∀ b, F b → b < w.heap.size) ∧ (∀ q, q < n → q ∉ x.ns → LsAt V x w F q) ∧
    ∀ q q' b b', q < n → q' < n → q ≠ q' → q ∉ x.ns → q' ∉ x.ns → slA (V q) = some b → slA (V q') = some b' → 0 < hcP x q → 0 < hcP x q' → b.block ≠ b'.block
  some_ := fun h => h.1
  lt := fun h => h.2.1
  frame := fun ⟨h1, h2, h3, h4⟩ hsz hb => ⟨h1, fun b hF => Nat.lt_of_lt_of_le (h2 b hF) hsz, fun q hq hn => by
    obtain ⟨B, e1, e2, e3⟩ := h3 q hq hn
    exact ⟨B, e1, fun e => (e2 e).keep fun a ha hs => hb _ (e3 a ha hs.1), e3⟩, h4⟩
  dat := V
  num := n

theorem set_same {α : Type} {l : List α} {c : Nat} {x : α} (h : l[c]? = some x) : l.set c x = l := by
  apply List.ext_getElem?
  intro j
  by_cases hj : c = j
  · subst hj; rw [List.getElem?_set_self (List.getElem?_eq_some_iff.1 h).1, h]
  · rw [List.getElem?_set_ne hj]

section
variable {P : Program} {e e' : Env} {w0 : World} {W : Nat → Prop} {m : Mem} {w : World}

theorem obj_reg {B : Option Addr} {t : Nat} {p : Pay} {I : ObjI} {rw : Bool} : RegOK e w B ⟨rw, .obj t p I⟩ := ⟨fun j v hv => (by cases hv), fun es k hm => (by cases hm)⟩

/-- an object's region is told otherwise, in fewer blocks or in more -/
theorem Rel.reobj (h : Rel e w0 W m w) {F : Nat → Nat → Prop} (hF : Objs e w0 W m w F) {i t : Nat} {p p' : Pay} {I I' : ObjI} (hi : m[i]? = some (some ⟨true, .obj t p I⟩)) {G : Nat → Prop} (hG : I'.ok p' w (e i) G)
    (hap : ∀ {j y J b}, i ≠ j → IsO m j y J → G b → ¬ F j b) (hoff : ∀ {j r a}, m[j]? = some (some r) → r.con.some_ → e j = some a → ¬ G a.block) (hwr : ∀ {b}, G b → W b ∨ w0.heap.size ≤ b) :
    Rel e w0 W (m.set i (some ⟨true, .obj t p' I'⟩)) w ∧ Objs e w0 W (m.set i (some ⟨true, .obj t p' I'⟩)) w (fun j b => if j = i then G b else F j b) := by
  have hil : i < m.length := (List.getElem?_eq_some_iff.1 hi).1
  have get : ∀ (q : Nat) (r : Reg), (m.set i (some ⟨true, .obj t p' I'⟩))[q]? = some (some r) → (q = i ∧ r = ⟨true, .obj t p' I'⟩) ∨ (q ≠ i ∧ m[q]? = some (some r)) := by
    intro q r hq
    by_cases hiq : i = q
    · subst hiq
      rw [List.getElem?_set_self hil] at hq
      cases hq
      exact .inl ⟨rfl, rfl⟩
    · rw [List.getElem?_set_ne hiq] at hq
      exact .inr ⟨Ne.symm hiq, hq⟩
  have getS : ∀ (q : Nat) (r : Reg), (m.set i (some ⟨true, .obj t p' I'⟩))[q]? = some (some r) → r.con.some_ → q ≠ i ∧ m[q]? = some (some r) := by
    intro q r hq hs
    rcases get q r hq with ⟨_, h2⟩ | h2
    · subst h2; exact hs.elim
    · exact h2
  have getO : ∀ {q y J}, IsO (m.set i (some ⟨true, .obj t p' I'⟩)) q y J → (q = i ∧ y = p' ∧ J = I') ∨ (q ≠ i ∧ IsO m q y J) := by
    rintro q y J ⟨t', hq⟩
    rcases get q _ hq with ⟨h1, h2⟩ | ⟨h1, h2⟩
    · cases h2; exact .inl ⟨h1, rfl, rfl⟩
    · exact .inr ⟨h1, t', h2⟩
  have hobj : Objs e w0 W (m.set i (some ⟨true, .obj t p' I'⟩)) w (fun j b => if j = i then G b else F j b) := by
    refine ⟨fun {j y J} hj => ?_, fun {j k y z J K b} hjk hj hk hb hb2 => ?_, fun {j k y J r a} hj hk hs ha hb => ?_, fun {j y J b} hj hb => ?_⟩
    · rcases getO hj with ⟨rfl, rfl, rfl⟩ | ⟨h1, h2⟩
      · simp only [if_true]; exact hG
      · simp only [if_neg h1]; exact hF.ok h2
    · rcases getO hj with ⟨rfl, rfl, rfl⟩ | ⟨h1, h2⟩ <;> rcases getO hk with ⟨rfl, rfl, rfl⟩ | ⟨g1, g2⟩
      · exact hjk rfl
      · rw [if_pos rfl] at hb; rw [if_neg g1] at hb2
        exact hap (Ne.symm g1) g2 hb hb2
      · rw [if_neg h1] at hb; rw [if_pos rfl] at hb2
        exact hap (Ne.symm h1) h2 hb2 hb
      · rw [if_neg h1] at hb; rw [if_neg g1] at hb2
        exact hF.apart hjk h2 g2 hb hb2
    · obtain ⟨_, k2⟩ := getS k r hk hs
      rcases getO hj with ⟨rfl, rfl, rfl⟩ | ⟨h1, h2⟩
      · rw [if_pos rfl] at hb; exact hoff k2 hs ha hb
      · rw [if_neg h1] at hb; exact hF.off h2 k2 hs ha hb
    · rcases getO hj with ⟨rfl, rfl, rfl⟩ | ⟨h1, h2⟩
      · rw [if_pos rfl] at hb; exact hwr hb
      · rw [if_neg h1] at hb; exact hF.wr h2 hb
  refine ⟨⟨h.fr, fun q r hq => ?_, fun q k rq rk a b hqk hq hk hrw hsq hsk ha hb => ?_, fun q r a hq hrw hsq ha => ?_, ⟨_, hobj⟩, h.ro.set i fun t x I hh => by cases hh⟩, hobj⟩
  · rcases get q r hq with ⟨rfl, rfl⟩ | ⟨_, h2⟩
    · exact obj_reg
    · exact h.reg q r h2
  · exact h.sep q k rq rk a b hqk (getS q rq hq hsq).2 (getS k rk hk hsk).2 hrw hsq hsk ha hb
  · exact h.wr q r a (getS q r hq hsq).2 hrw hsq ha

/-- slice r is taken out -/
theorem Rel.takeL (h : Rel e w0 W m w) (hok : Mem.ok m = true) {i t n r : Nat} {p : Pay} {V : Nat → Value} (hi : m[i]? = some (some ⟨true, .obj t p (listI n V)⟩)) (hr : r < n) (hns : p.ns = []) :
    ∃ e', (∀ q, q < m.length → e' q = e q) ∧ Rel e' w0 W (m.set i (some ⟨true, .obj t (mkL (hlP p) (hcP p) (hdP p) [r]) (listI n V)⟩) ++ [some ⟨true, .tab (hcP p r) [.int .i64 (hdP p r)]⟩]) w ∧ SA.den e' (.slc m.length 1 0 (hlP p r) (hcP p r)) = V r := by
  obtain ⟨F, hF⟩ := h.obj
  have hio : IsO m i p (listI n V) := ⟨t, hi⟩
  obtain ⟨k1, k2, k3, k4⟩ := hF.ok hio
  have hil : i < m.length := (List.getElem?_eq_some_iff.1 hi).1
  have hn0 : ∀ q, q ∉ p.ns := fun q hq => by rw [hns] at hq; cases hq
  obtain ⟨B, e1, e2, e3⟩ := k3 r hr (hn0 r)
  obtain ⟨h1, hO⟩ := h.reobj hF hi (p' := mkL (hlP p) (hcP p) (hdP p) [r]) (I' := listI n V) (G := fun b => F i b ∧ ∀ a, B = some a → 0 < hcP p r → b ≠ a.block)
    ⟨k1, fun b hb => k2 b hb.1, fun q hq hqn => by
      have hqr : q ≠ r := fun hh => hqn (by rw [hh]; exact List.mem_cons_self)
      obtain ⟨B', g1, g2, g3⟩ := k3 q hq (hn0 q)
      refine ⟨B', g1, g2, fun b hb hc => ⟨g3 b hb hc, fun a ha hca => ?_⟩⟩
      exact k4 q r b a hq hr hqr (hn0 q) (hn0 r) (by rw [g1]; exact hb) (by rw [e1]; exact ha) hc hca,
    fun q q' b b' hq hq' hne _ _ => k4 q q' b b' hq hq' hne (hn0 q) (hn0 q')⟩
    (fun hij hj hb => hF.apart hij hio hj hb.1) (fun hj hs ha hb => hF.off hio hj hs ha hb.1) (fun hb => hF.wr hio hb.1)
  have hlen : (m.set i (some (⟨true, .obj t (mkL (hlP p) (hcP p) (hdP p) [r]) (listI n V)⟩ : Reg))).length = m.length := by simp
  have hok1 : Mem.ok (m.set i (some (⟨true, .obj t (mkL (hlP p) (hcP p) (hdP p) [r]) (listI n V)⟩ : Reg))) = true := by
    simp only [Mem.ok, List.all_eq_true, List.length_set] at hok ⊢
    intro x hx
    rcases List.mem_or_eq_of_mem_set hx with h9 | h9
    · exact hok x h9
    · subst h9; rfl
  have getm : ∀ (q : Nat) (y : Reg), (m.set i (some (⟨true, .obj t (mkL (hlP p) (hcP p) (hdP p) [r]) (listI n V)⟩ : Reg)))[q]? = some (some y) → y.con.some_ → m[q]? = some (some y) := by
    intro q y hq hs
    by_cases hiq : i = q
    · subst hiq
      rw [List.getElem?_set_self hil] at hq
      cases hq; exact hs.elim
    · rwa [List.getElem?_set_ne hiq] at hq
  refine ⟨fun q => if q < m.length then e q else B, fun q hq => if_pos hq, ?_, ?_⟩
  · refine h1.push (A := B) (fun q hq => if_pos (by rw [hlen] at hq; exact hq)) hok1 (by rw [hlen]; exact if_neg (Nat.lt_irrefl _)) (e2 _) (fun hs q rq a b hq hsq ha hb hab => ?_) (fun hs a ha => ?_) ⟨_, hO, fun {j y J a} hj hs ha hb => ?_⟩
    · exact hF.off hio (getm q rq hq hsq) hsq hb (by rw [← hab]; exact e3 a ha hs.1)
    · exact hF.wr hio (e3 a ha hs.1)
    · by_cases hji : j = i
      · rw [if_pos hji] at hb; exact hb.2 a ha hs.1 rfl
      · rw [if_neg hji] at hb
        obtain ⟨t', hj⟩ := hj
        rw [List.getElem?_set_ne (Ne.symm hji)] at hj
        exact hF.apart (Ne.symm hji) hio ⟨t', hj⟩ (e3 a ha hs.1) hb
  · rw [e1]
    simp only [SA.den, at_, if_neg (Nat.lt_irrefl _), Nat.zero_mul]
    cases B <;> simp [Addr.add_zero']

/-- .. and put back -/
theorem Rel.putL (h : Rel e w0 W m w) {i t n r j N l c : Nat} {p : Pay} {V : Nat → Value} {f : Nat → Int} (hi : m[i]? = some (some ⟨true, .obj t p (listI n V)⟩)) (hns : p.ns = [r]) (hj : m[j]? = some (some ⟨true, .tab N [.int .i64 f]⟩)) (hc : c ≤ N) :
    Rel e w0 W ((m.set j none).set i (some ⟨true, .obj t (mkL (upd (hlP p) r l) (upd (hcP p) r c) (upd (hdP p) r f) []) (listI n (upd V r (.slice (e j) l c)))⟩)) w := by
  have hij : i ≠ j := by intro hh; rw [hh, hj] at hi; cases hi
  have hjl : j < m.length := (List.getElem?_eq_some_iff.1 hj).1
  have hio : IsO m i p (listI n V) := ⟨t, hi⟩
  have h0 := h.drop j
  obtain ⟨F, hF⟩ := h.obj
  have getd : ∀ (q : Nat) (y : Reg), (m.set j none)[q]? = some (some y) → q ≠ j ∧ m[q]? = some (some y) := by
    intro q y hq
    by_cases hjq : j = q
    · subst hjq
      rw [List.getElem?_set_self hjl] at hq; cases hq
    · rw [List.getElem?_set_ne hjq] at hq; exact ⟨Ne.symm hjq, hq⟩
  have hF0 : Objs e w0 W (m.set j none) w F := hF.to (fun hq => ⟨(hq.of_set (fun _ _ _ _ hh => by cases hh)).2, rfl⟩) (Nat.le_refl _) (fun _ _ => rfl) (fun hq hk hs ha => hF.off (hq.of_set (fun _ _ _ _ hh => by cases hh)).2 (getd _ _ hk).2 hs ha)
  obtain ⟨k1, k2, k3, k4⟩ := hF.ok hio
  have hRj := h.reg j _ hj
  have hsm : ∀ a, e j = some a → 0 < c → (Con.tab N [Col.int .i64 f]).some_ := fun a _ h9 => ⟨by omega, by simp⟩
  have hblk : ∀ a, e j = some a → 0 < c → a.block < w.heap.size := fun a ha h9 => by
    rw [ha] at hRj
    exact hRj.lt (hsm a ha h9)
  have hnq : ∀ q, q ≠ r → q ∉ p.ns := fun q hq hh => by rw [hns] at hh; simp at hh; exact hq hh
  have nF : ∀ a, e j = some a → 0 < c → ¬ F i a.block := fun a ha h9 => hF.off hio hj (hsm a ha h9) ha
  refine (h0.reobj hF0 (i := i) (by rw [List.getElem?_set_ne (Ne.symm hij)]; exact hi) (p' := mkL (upd (hlP p) r l) (upd (hcP p) r c) (upd (hdP p) r f) []) (I' := listI n (upd V r (.slice (e j) l c))) (G := fun b => F i b ∨ ∃ a, e j = some a ∧ 0 < c ∧ a.block = b) ⟨k1, ?_, fun q hq _ => ?_, fun q q' b b' hq hq' hne _ _ hb hb' hcq hcq' => ?_⟩ (fun {q y J b} hq hy hb hb2 => ?_) (fun {q y a} hq hs ha hb => ?_) (fun {b} hb => ?_)).1
  · rintro b (hb | ⟨a, ha, h9, rfl⟩)
    · exact k2 b hb
    · exact hblk a ha h9
  · by_cases hqr : q = r
    · subst hqr
      refine ⟨e j, by simp [mkL, upd, hlP, hcP], fun e2 => ?_, fun b hb h9 => .inr ⟨b, hb, by simpa [mkL, upd, hcP] using h9, rfl⟩⟩
      refine ⟨fun jj v hv => ?_, fun es k hm => by cases hm⟩
      have h8 : (Con.tab N [Col.int .i64 f]).cell e jj = some v := by
        simp only [Con.cell, mkL, upd, hcP, hdP, List.getD_cons_zero, List.getD_cons_succ, List.length_cons, List.length_nil, if_true] at hv ⊢
        split at hv
        · rename_i h7
          rw [if_pos (by omega)]; exact hv
        · cases hv
      exact hRj.cell jj v h8
    · obtain ⟨B, g1, g2, g3⟩ := k3 q hq (hnq q hqr)
      refine ⟨B, by simpa [mkL, upd, hlP, hcP, hqr] using g1, fun e2 => by simpa [mkL, upd, hcP, hdP, hqr] using g2 e2, fun b hb h9 => .inl (g3 b hb (by simpa [mkL, upd, hcP, hqr] using h9))⟩
  · by_cases hqr : q = r <;> by_cases hqr' : q' = r
    · exact absurd (hqr.trans hqr'.symm) hne
    · subst hqr
      obtain ⟨B, g1, g2, g3⟩ := k3 q' hq' (hnq q' hqr')
      simp only [upd, if_true, if_neg hqr', slA] at hb hb'
      rw [g1] at hb'
      have h9 : 0 < c := by simpa [mkL, upd, hcP] using hcq
      have h8 := g3 b' hb' (by simpa [mkL, upd, hcP, hqr'] using hcq')
      exact fun hh => nF b hb h9 (by rw [hh]; exact h8)
    · subst hqr'
      obtain ⟨B, g1, g2, g3⟩ := k3 q hq (hnq q hqr)
      simp only [upd, if_true, if_neg hqr, slA] at hb hb'
      rw [g1] at hb
      have h9 : 0 < c := by simpa [mkL, upd, hcP] using hcq'
      have h8 := g3 b hb (by simpa [mkL, upd, hcP, hqr] using hcq)
      exact fun hh => nF b' hb' h9 (by rw [← hh]; exact h8)
    · simp only [upd, if_neg hqr, if_neg hqr'] at hb hb'
      exact k4 q q' b b' hq hq' hne (hnq q hqr) (hnq q' hqr') hb hb' (by simpa [mkL, upd, hcP, hqr] using hcq) (by simpa [mkL, upd, hcP, hqr'] using hcq')
  · rcases hb with hb | ⟨a, ha, h9, rfl⟩
    · exact hF0.apart hq ⟨t, by rw [List.getElem?_set_ne (Ne.symm hij)]; exact hi⟩ hy hb hb2
    · exact hF.off (hy.of_set (fun _ _ _ _ hh => by cases hh)).2 hj (hsm a ha h9) ha hb2
  · obtain ⟨g1, g2⟩ := getd q y hq
    rcases hb with hb | ⟨a', ha', h9, hab⟩
    · exact hF.off hio g2 hs ha hb
    · exact h.sep j q _ y a' a (Ne.symm g1) hj g2 rfl (hsm a' ha' h9) hs ha' ha hab
  · rcases hb with hb | ⟨a, ha, h9, rfl⟩
    · exact hF.wr hio hb
    · exact h.wr j _ a hj rfl (hsm a ha h9) ha

theorem SA.ok_up {n n' : Nat} (h : n ≤ n') {x : SA} (hx : x.ok n = true) : x.ok n' = true := by
  cases x with
  | clo f caps =>
    simp only [SA.ok, List.all_eq_true] at hx ⊢
    exact fun c hc => blt_iff.2 (Nat.lt_of_lt_of_le (blt_iff.1 (hx c hc)) h)
  | ptr i o => exact blt_iff.2 (Nat.lt_of_lt_of_le (blt_iff.1 hx) h)
  | rp i s r c => exact blt_iff.2 (Nat.lt_of_lt_of_le (blt_iff.1 hx) h)
  | slc i s r l c => exact blt_iff.2 (Nat.lt_of_lt_of_le (blt_iff.1 hx) h)
  | map i => exact blt_iff.2 (Nat.lt_of_lt_of_le (blt_iff.1 hx) h)
  | gcl f a b i s r l c => exact blt_iff.2 (Nat.lt_of_lt_of_le (blt_iff.1 hx) h)
  | _ => rfl
theorem Con.ok_up {n n' : Nat} (h : n ≤ n') {c : Con} (hc : c.ok n = true) : c.ok n' = true := by
  cases c with
  | flat l =>
    simp only [Con.ok, List.all_eq_true] at hc ⊢
    exact fun x hx => SA.ok_up h (hc x hx)
  | room k l =>
    simp only [Con.ok, List.all_eq_true] at hc ⊢
    exact fun x hx => SA.ok_up h (hc x hx)
  | _ => rfl
/-- where the object of a kind stands -/
def tagAt (t : Nat) : Mem → Nat → Option Nat
  | [], _ => none
  | some ⟨true, .obj t' _ _⟩ :: l, i => (match Nat.beq t t' with | true => some i | false => tagAt t l (i + 1))
  | _ :: l, i => tagAt t l (i + 1)

theorem After.down {e e1 : Env} {n n1 : Nat} {v : SV} {m' : Mem} {r : Ending} {w' : World} (hn : n ≤ n1) (he : ∀ i, i < n → e1 i = e i) (h : After e1 n1 w0 W v m' r w') : After e n w0 W v m' r w' := by
  obtain ⟨e', h1, h2, h3⟩ := h
  exact ⟨e', fun i hi => (h1 i (by omega)).trans (he i hi), h2, h3⟩
theorem Alt.Says.down {e e1 : Env} {n n1 : Nat} {r : Ending} {w' : World} (hn : n ≤ n1) (he : ∀ i, i < n → e1 i = e i) {a : Alt} (h : a.Says e1 n1 w0 W r w') : a.Says e n w0 W r w' := by
  cases a with
  | one v m' => exact After.down hn he h
  | cond p v m' => exact ⟨h.1, After.down hn he h.2⟩
  | fam α p v m' =>
    obtain ⟨y, h1, h2⟩ := h
    exact ⟨y, h1, After.down hn he h2⟩

/-- A call whose first argument holds, in cell c, one of those slices: it is taken out. 'row' tells which one. -/
def viaL (s : ESpec P) (c t : Nat) (row : List SV → Mem → Option Nat) : ESpec P where
  f := s.f
  X := s.X × Prop
  inp := fun as m => match as with
    | .one (.agg l) :: rest => (match l[c]?, tagAt t m 0, row as m with
      | some (.v x), some i, some r => (match m[i]? with
        | some (some ⟨true, .obj t' p I⟩) => (match Mem.ok m && as.all (SV.ok m.length), s.inp (.one (.agg (l.set c (.slc m.length 1 0 (hlP p r) (hcP p r)))) :: rest) (m.set i (some ⟨true, .obj t' (mkL (hlP p) (hcP p) (hdP p) [r]) I⟩) ++ [some ⟨true, .tab (hcP p r) [.int .i64 (hdP p r)]⟩]) with
          | true, some y => some (y, I = listI I.num I.dat ∧ I.dat r = x ∧ r < I.num ∧ p.ns = [])
          | _, _ => none)
        | _ => none)
      | _, _, _ => none)
    | _ => none
  pre := fun y => some (y.2 ∧ obp (s.pre y.1))
  res := fun y => s.res y.1
  ent := s.ent
  sound := fun as m y hy hp hok e w0 W w hrel => by
    split at hy
    · rename_i l rest
      split at hy
      · rename_i x i r hc hf hrow
        split at hy
        · rename_i t' p I hi
          split at hy
          · rename_i y' hall hin
            cases hy
            obtain ⟨⟨hI, hx, hr, hns⟩, hpre⟩ : (I = listI I.num I.dat ∧ I.dat r = x ∧ r < I.num ∧ p.ns = []) ∧ obp (s.pre y') := hp
            simp only [Bool.and_eq_true] at hall
            have hi' : m[i]? = some (some ⟨true, .obj t' p (listI I.num I.dat)⟩) := by rw [← hI]; exact hi
            obtain ⟨e1, h1, h2, h3⟩ := hrel.takeL hok hi' hr hns
            rw [← hI] at h2
            have hok1 : Mem.ok (m.set i (some (⟨true, .obj t' (mkL (hlP p) (hcP p) (hdP p) [r]) I⟩ : Reg)) ++ [some ⟨true, .tab (hcP p r) [.int .i64 (hdP p r)]⟩]) = true := by
              simp only [Mem.ok, List.all_eq_true, List.length_append, List.length_set, List.length_cons, List.length_nil] at hok ⊢
              intro z hz
              rcases List.mem_append.1 hz with hz | hz
              · rcases List.mem_or_eq_of_mem_set hz with h9 | h9
                · have h8 := hok z h9
                  cases z with
                  | none => rfl
                  | some z =>
                    have h7 : z.con.ok m.length = true := h8
                    exact Con.ok_up (Nat.le_add_right _ _) h7
                · subst h9; rfl
              · simp at hz; subst hz; rfl
            have hs := s.sound _ _ y' hin hpre hok1 e1 w0 W w h2
            have hden : ((SV.one (.agg (l.set c (.slc m.length 1 0 (hlP p r) (hcP p r)))) :: rest).map (SV.den e1)).toArray = ((SV.one (.agg l) :: rest).map (SV.den e)).toArray := by
              have hal := hall.2
              simp only [List.all_cons, Bool.and_eq_true] at hal
              congr 1
              simp only [List.map_cons]
              congr 1
              · have h5 : (SV.one (.agg l)).den e1 = (SV.one (.agg l)).den e := SV.congr h1 hal.1
                rw [← h5]
                simp only [SV.den, SV1.den, List.map_set]
                congr 2
                rw [h3, hx]
                exact set_same (by rw [List.getElem?_map, hc]; rfl)
              · exact List.map_congr_left fun z hz => SV.congr h1 (List.all_eq_true.1 hal.2 z hz)
            rw [hden] at hs
            exact hs.mono fun r' w' ⟨a, ha, hsa⟩ => ⟨a, ha, hsa.down (by simp) h1⟩
          · cases hy
        · cases hy
      · cases hy
    · cases hy

def okW : R → Prop
  | .wr ob _ _ => obp ob
  | _ => False
def memW (m : Mem) : R → Mem
  | .wr _ k r => m.set k (some r)
  | _ => []
/-- A row is stored that holds, in cell c, a slice that is not of those yet: it is put in. -/
def putLX (t c : Nat) : XAct P where
  act := fun S o => match o.op with
    | .store ty p x => (match S.ev p, S.ev x with
      | some (.one (.a (.rp k st r 0))), some (.one (.agg l)) => (match l[c]?, tagAt t S.m 0 with
        | some (.slc j 1 0 ln cp), some i => (match S.m[j]?, S.m[i]? with
          | some (some ⟨true, .tab N [.int .i64 f]⟩), some (some ⟨true, .obj t' p' I⟩) =>
            some (some ((I = listI I.num I.dat ∧ p'.ns = [r] ∧ cp ≤ N) ∧ ∀ A, okW (rdStore P ((S.m.set j none).set i (some ⟨true, .obj t' (mkL (upd (hlP p') r ln) (upd (hcP p') r cp) (upd (hdP p') r f) []) (listI I.num (upd I.dat r (.slice A ln cp)))⟩)) ty (.rp k st r 0) (.agg (l.set c (.v (.slice A ln cp)))))),
              [.fam (Option Addr) (fun _ => True) (fun _ => .tup []) (fun A => memW ((S.m.set j none).set i (some ⟨true, .obj t' (mkL (upd (hlP p') r ln) (upd (hcP p') r cp) (upd (hdP p') r f) []) (listI I.num (upd I.dat r (.slice A ln cp)))⟩)) (rdStore P ((S.m.set j none).set i (some ⟨true, .obj t' (mkL (upd (hlP p') r ln) (upd (hcP p') r cp) (upd (hdP p') r f) []) (listI I.num (upd I.dat r (.slice A ln cp)))⟩)) ty (.rp k st r 0) (.agg (l.set c (.v (.slice A ln cp))))))])
          | _, _ => none)
        | _, _ => none)
      | _, _ => none)
    | _ => none
  sound := fun S o ob al hact hob hok e w0 W w a hrel ht => by
    split at hact
    · rename_i ty p x hop
      split at hact
      · rename_i k st r l hp hx
        split at hact
        · rename_i j ln cp i hc hf
          split at hact
          · rename_i N f t' p' I hj hi
            cases hact
            obtain ⟨⟨hI, hns, hcN⟩, hW⟩ := hob
            have hi' : S.m[i]? = some (some ⟨true, .obj t' p' (listI I.num I.dat)⟩) := by rw [← hI]; exact hi
            have h1 := hrel.putL (l := ln) (c := cp) hi' hns hj hcN
            have h2 := hW (e j)
            generalize hr : rdStore P ((S.m.set j none).set i (some ⟨true, .obj t' (mkL (upd (hlP p') r ln) (upd (hcP p') r cp) (upd (hdP p') r f) []) (listI I.num (upd I.dat r (.slice (e j) ln cp)))⟩)) ty (.rp k st r 0) (.agg (l.set c (.v (.slice (e j) ln cp)))) = R0 at h2
            cases R0 with
            | wr ob k' rg =>
              obtain ⟨w', hrun, hrel'⟩ := rdStore_ok h1 hr h2
              have hv : (SV1.agg (l.set c (.v (.slice (e j) ln cp)))).den e = (SV1.agg l).den e := by
                simp only [SV1.den, List.map_set]
                refine congrArg (fun z => Value.agg (List.toArray z)) (set_same ?_)
                rw [List.getElem?_map, hc]
                simp only [Option.map_some, SA.den, at_, Nat.zero_mul]
                cases e j <;> simp [Addr.add_zero']
              rw [hv] at hrun
              refine ⟨undef, w', .inr ⟨rfl, ?_⟩, _, List.mem_singleton.2 rfl, e j, trivial, e, fun _ _ => rfl, rfl, ?_⟩
              · have hpe := evOk ht hp
                have hxe := evOk ht hx
                simp only [execOp, hop, hpe, hxe, SV.den, SV1.den, SA.den] at hrun ⊢
                simp only [Sem.run_bind, hrun, Result.andThen_ok]
                rfl
              · show Rel e w0 W (memW _ (rdStore P _ ty (.rp k st r 0) (.agg (l.set c (.v (.slice (e j) ln cp)))))) w'
                rw [hr]
                exact hrel'
            | _ => exact h2.elim
          · cases hact
        · cases hact
      · cases hact
    · cases hact
end
end Go.Sx
