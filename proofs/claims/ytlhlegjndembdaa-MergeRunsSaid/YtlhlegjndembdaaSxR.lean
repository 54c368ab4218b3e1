/-
  A library of my own: functions of the program are carried out symbolically, and what is left to show is plain. Joined out of its parts by a program.
-/
import Derived.Test.YtlhlegjndembdaaSxL
import Derived.OrdersHeld
import Derived.ProofKit
import Derived.OpenShut
import Derived.Deep.Slices
import Derived.ChangeSame

/-
  Part 9: code is carried out.
-/
namespace Go.Sx
open Go.RowKit

def obs : Option Prop → Prop → Prop
  | none, K => K
  | some p, K => p ∧ K

/-- (By the recursor, as all that follow of this kind: what is left of it then looks alike to the elaborator and to the kernel.) -/
noncomputable def allP (l : List Prop) : Prop → Prop := List.rec (motive := fun _ => Prop → Prop) (fun K => K) (fun p _ ih K => p ∧ ih K) l
theorem allP_nil {K : Prop} : allP [] K = K := rfl
theorem allP_cons {p : Prop} {l : List Prop} {K : Prop} : allP (p :: l) K = (p ∧ allP l K) := rfl

/-! ### Names renamed -/

def rn (ρ : List Nat) (i : Nat) : Nat := ρ.getD i i

def SA.ren (ρ : List Nat) : SA → SA
  | .ptr i off => .ptr (rn ρ i) off
  | .rp i st r c => .rp (rn ρ i) st r c
  | .slc i st r len cap => .slc (rn ρ i) st r len cap
  | .map i => .map (rn ρ i)
  | .clo f caps => .clo f (caps.map fun c => (rn ρ c.1, c.2))
  | .gcl f a b i st r len cap => .gcl f a b (rn ρ i) st r len cap
  | x => x
def SV1.ren (ρ : List Nat) : SV1 → SV1
  | .a x => .a (x.ren ρ)
  | .agg l => .agg (l.map (SA.ren ρ))
def SV.ren (ρ : List Nat) : SV → SV
  | .one x => .one (x.ren ρ)
  | .tup l => .tup (l.map (SV1.ren ρ))
def Con.ren (ρ : List Nat) : Con → Con
  | .flat l => .flat (l.map (SA.ren ρ))
  | .room n l => .room n (l.map (SA.ren ρ))
  | c => c

def renE (e : Env) (ρ : List Nat) : Env := fun j => e (rn ρ j)

theorem SA.den_ren (e : Env) (ρ : List Nat) (x : SA) : (x.ren ρ).den e = x.den (renE e ρ) := by
  cases x <;> simp [SA.ren, SA.den, at_, renE, Function.comp_def]
theorem SV1.den_ren (e : Env) (ρ : List Nat) (x : SV1) : (x.ren ρ).den e = x.den (renE e ρ) := by
  cases x with
  | a x => exact SA.den_ren e ρ x
  | agg l => simp [SV1.ren, SV1.den, Function.comp_def, SA.den_ren]
theorem SV.den_ren (e : Env) (ρ : List Nat) (x : SV) : (x.ren ρ).den e = x.den (renE e ρ) := by
  cases x with
  | one x => exact SV1.den_ren e ρ x
  | tup l => simp [SV.ren, SV.den, Function.comp_def, SV1.den_ren]
theorem Con.cell_ren (e : Env) (ρ : List Nat) (c : Con) (j : Nat) : (c.ren ρ).cell e j = c.cell (renE e ρ) j := by
  cases c with
  | flat l => simp only [Con.ren, Con.cell, List.getElem?_map, Option.map_map, Function.comp_def, SA.den_ren]
  | tab n cols => rfl
  | room n l => simp only [Con.ren, Con.cell, List.getElem?_map, Option.map_map, Function.comp_def, SA.den_ren]
  | obj t x I => rfl

/-! ### What makes two values one -/

def natList : List (Nat × Nat) → List (Nat × Nat) → Bool
  | [], [] => true
  | a :: l, b :: r => Nat.beq a.1 b.1 && Nat.beq a.2 b.2 && natList l r
  | _, _ => false

/-- what must be shown: the first is what is claimed, the second what is -/
def eqSA : SA → SA → Option (List Prop)
  | .v (.int k a), .v (.int k' b) => (match kindEq k k' with | true => some [a = b] | false => none)
  | .v (.pointer none), .v (.pointer none) => some []
  | .v (.slice none 0 0), .v (.slice none 0 0) => some []
  | .ptr i o, .ptr j o' => (match Nat.beq i j with | true => some [o = o'] | false => none)
  | .rp i s r c, .rp j s' r' c' => (match Nat.beq i j, Nat.beq s s', Nat.beq c c' with | true, true, true => some [r = r'] | _, _, _ => none)
  | .slc i s r l c, .slc j s' r' l' c' => (match Nat.beq i j, Nat.beq s s' with | true, true => some [r = r', l = l', c = c'] | _, _ => none)
  | .map i, .map j => (match Nat.beq i j with | true => some [] | false => none)
  | .clo f caps, .clo g caps' => (match Nat.beq f g, natList caps caps' with | true, true => some [] | _, _ => none)
  | .gcl f a b i s r l c, .gcl g a' b' j s' r' l' c' => (match Nat.beq f g, Nat.beq i j, Nat.beq s s' with | true, true, true => some [a = a', b = b', r = r', l = l', c = c'] | _, _, _ => none)
  | .tt, .tt => some []
  | .ff, .ff => some []
  | x, y => (match boolOf x, boolOf y with
    | some a, some b => some [a = b]
    | _, _ => (match x, y with | .v a, .v b => some [a = b] | _, _ => none))

def app2 : Option (List Prop) → Option (List Prop) → Option (List Prop)
  | some l, some r => some (l ++ r)
  | _, _ => none

def eqSAs : List SA → List SA → Option (List Prop)
  | [], [] => some []
  | x :: xs, y :: ys => app2 (eqSA x y) (eqSAs xs ys)
  | _, _ => none

/-- the first as a beginning of the second -/
def preSAs : List SA → List SA → Option (List Prop)
  | [], _ => some []
  | x :: xs, y :: ys => app2 (eqSA x y) (preSAs xs ys)
  | _, _ => none

def eqSV1 : SV1 → SV1 → Option (List Prop)
  | .a x, .a y => eqSA x y
  | .agg l, .agg r => eqSAs l r
  | _, _ => none
def eqSV1s : List SV1 → List SV1 → Option (List Prop)
  | [], [] => some []
  | x :: xs, y :: ys => app2 (eqSV1 x y) (eqSV1s xs ys)
  | _, _ => none
def eqSV : SV → SV → Option (List Prop)
  | .one x, .one y => eqSV1 x y
  | .tup l, .tup r => eqSV1s l r
  | _, _ => none

def Holds (l : List Prop) : Prop := ∀ p ∈ l, p

theorem holds_app {l r : List Prop} (h : Holds (l ++ r)) : Holds l ∧ Holds r :=
  ⟨fun p hp => h p (List.mem_append.2 (.inl hp)), fun p hp => h p (List.mem_append.2 (.inr hp))⟩

theorem allP_iff {l : List Prop} {K : Prop} : allP l K ↔ Holds l ∧ K := by
  induction l with
  | nil => simp [allP_nil, Holds]
  | cons p l ih =>
    simp only [allP_cons, ih]
    constructor
    · rintro ⟨h1, h2, h3⟩
      refine ⟨fun q hq => ?_, h3⟩
      rcases List.mem_cons.1 hq with rfl | hq
      · exact h1
      · exact h2 q hq
    · rintro ⟨h1, h2⟩
      exact ⟨h1 p List.mem_cons_self, fun q hq => h1 q (List.mem_cons_of_mem _ hq), h2⟩

theorem app2_some {a b : Option (List Prop)} {l : List Prop} (h : app2 a b = some l) : ∃ x y, a = some x ∧ b = some y ∧ l = x ++ y := by
  unfold app2 at h
  split at h
  · rename_i x y
    cases h; exact ⟨x, y, rfl, rfl, rfl⟩
  · cases h

theorem natList_eq : ∀ {l r : List (Nat × Nat)}, natList l r = true → l = r
  | [], [], _ => rfl
  | a :: l, b :: r, h => by
    simp only [natList, Bool.and_eq_true] at h
    have h1 := Nat.beq_iff.1 h.1.1
    have h2 := Nat.beq_iff.1 h.1.2
    rw [natList_eq h.2]
    congr 1
    exact Prod.ext h1 h2
  | [], _ :: _, h => by cases h
  | _ :: _, [], h => by cases h

theorem eqSA_den {e : Env} {x y : SA} {l : List Prop} (h : eqSA x y = some l) (hl : Holds l) : x.den e = y.den e := by
  unfold eqSA at h
  split at h
  · split at h
    · rename_i hk
      cases h
      have := kind_eq hk
      have h2 := hl _ (List.mem_cons_self)
      subst this; subst h2; rfl
    · cases h
  · cases h; rfl
  · cases h; rfl
  · split at h
    · rename_i hk
      cases h
      have := Nat.beq_iff.1 hk
      have h2 := hl _ (List.mem_cons_self)
      subst this; subst h2; rfl
    · cases h
  · split at h
    · rename_i h1 h2 h3
      cases h
      have h1 := Nat.beq_iff.1 h1
      have h2 := Nat.beq_iff.1 h2
      have h3 := Nat.beq_iff.1 h3
      have h4 := hl _ (List.mem_cons_self)
      subst h1; subst h2; subst h3; subst h4; rfl
    · cases h
  · split at h
    · rename_i h1 h2
      cases h
      have h1 := Nat.beq_iff.1 h1
      have h2 := Nat.beq_iff.1 h2
      have h3 := hl _ (List.mem_cons_self)
      have h4 := hl _ (List.mem_cons_of_mem _ (List.mem_cons_self))
      have h5 := hl _ (List.mem_cons_of_mem _ (List.mem_cons_of_mem _ (List.mem_cons_self)))
      subst h1; subst h2; subst h3; subst h4; subst h5; rfl
    · cases h
  · split at h
    · rename_i hk
      have := Nat.beq_iff.1 hk
      subst this; rfl
    · cases h
  · split at h
    · rename_i h1 h2
      have h1 := Nat.beq_iff.1 h1
      have h2 := natList_eq h2
      subst h1; subst h2; rfl
    · cases h
  · split at h
    · rename_i h1 h2 h3
      cases h
      have h1 := Nat.beq_iff.1 h1
      have h2 := Nat.beq_iff.1 h2
      have h3 := Nat.beq_iff.1 h3
      have k1 := hl _ (List.mem_cons_self)
      have k2 := hl _ (List.mem_cons_of_mem _ (List.mem_cons_self))
      have k3 := hl _ (List.mem_cons_of_mem _ (List.mem_cons_of_mem _ (List.mem_cons_self)))
      have k4 := hl _ (List.mem_cons_of_mem _ (List.mem_cons_of_mem _ (List.mem_cons_of_mem _ (List.mem_cons_self))))
      have k5 := hl _ (List.mem_cons_of_mem _ (List.mem_cons_of_mem _ (List.mem_cons_of_mem _ (List.mem_cons_of_mem _ (List.mem_cons_self)))))
      subst h1; subst h2; subst h3; subst k1; subst k2; subst k3; subst k4; subst k5; rfl
    · cases h
  · rfl
  · rfl
  · split at h
    · rename_i a b ha hb
      cases h
      have := hl _ (List.mem_cons_self)
      rw [boolOf_den ha, boolOf_den hb, this]
    · split at h
      · cases h
        have := hl _ (List.mem_cons_self)
        rw [this]
      · cases h

theorem eqSAs_den {e : Env} : ∀ {x y : List SA} {l : List Prop}, eqSAs x y = some l → Holds l → x.map (SA.den e) = y.map (SA.den e)
  | [], [], _, _, _ => rfl
  | x :: xs, y :: ys, l, h, hl => by
    obtain ⟨a, b, h1, h2, rfl⟩ := app2_some h
    obtain ⟨h3, h4⟩ := holds_app hl
    simp only [List.map_cons, eqSA_den h1 h3, eqSAs_den h2 h4]
  | [], _ :: _, _, h, _ => by cases h
  | _ :: _, [], _, h, _ => by cases h

theorem preSAs_den {e : Env} : ∀ {x y : List SA} {l : List Prop}, preSAs x y = some l → Holds l → ∀ (j : Nat) (v : Value), (x[j]?).map (SA.den e) = some v → (y[j]?).map (SA.den e) = some v
  | [], _, _, _, _, j, v, hv => by simp at hv
  | x :: xs, y :: ys, l, h, hl, j, v, hv => by
    obtain ⟨a, b, h1, h2, rfl⟩ := app2_some h
    obtain ⟨h3, h4⟩ := holds_app hl
    cases j with
    | zero => simp at hv ⊢; rw [← eqSA_den h1 h3]; exact hv
    | succ j => simp only [List.getElem?_cons_succ] at hv ⊢; exact preSAs_den h2 h4 j v hv
  | _ :: _, [], _, h, _, _, _, _ => by cases h

theorem eqSV1_den {e : Env} {x y : SV1} {l : List Prop} (h : eqSV1 x y = some l) (hl : Holds l) : x.den e = y.den e := by
  unfold eqSV1 at h
  split at h
  · exact eqSA_den h hl
  · simp only [SV1.den, eqSAs_den h hl]
  · cases h

theorem eqSV1s_den {e : Env} : ∀ {x y : List SV1} {l : List Prop}, eqSV1s x y = some l → Holds l → x.map (SV1.den e) = y.map (SV1.den e)
  | [], [], _, _, _ => rfl
  | x :: xs, y :: ys, l, h, hl => by
    obtain ⟨a, b, h1, h2, rfl⟩ := app2_some h
    obtain ⟨h3, h4⟩ := holds_app hl
    simp only [List.map_cons, eqSV1_den h1 h3, eqSV1s_den h2 h4]
  | [], _ :: _, _, h, _ => by cases h
  | _ :: _, [], _, h, _ => by cases h

theorem eqSV_den {e : Env} {x y : SV} {l : List Prop} (h : eqSV x y = some l) (hl : Holds l) : x.den e = y.den e := by
  unfold eqSV at h
  split at h
  · exact eqSV1_den h hl
  · simp only [SV.den, eqSV1s_den h hl]
  · cases h

/-! ### Less is known -/

def subCol (n : Nat) : Col → Col → Option (List Prop)
  | .int k g, .int k' g' => (match kindEq k k' with | true => some [∀ r, r < n → g r = g' r] | false => none)
  | .bool g, .bool g' => some [∀ r, r < n → g r = g' r]
  | .val g, .val g' => some [∀ r, r < n → g r = g' r]
  | .val g, .int k g' => some [∀ r, r < n → g r = .int k (g' r)]
  | _, _ => none
def subCols (n : Nat) : List Col → List Col → Option (List Prop)
  | [], [] => some []
  | x :: xs, y :: ys => app2 (subCol n x y) (subCols n xs ys)
  | _, _ => none
def eqPs {α : Type} : List α → List α → Option (List Prop)
  | [], [] => some []
  | x :: xs, y :: ys => (match eqPs xs ys with | some l => some ((x = y) :: l) | none => none)
  | _, _ => none
def subPay (x y : Pay) : Option (List Prop) := app2 (eqPs x.ns y.ns) (app2 (eqPs x.is y.is) (app2 (eqPs x.bs y.bs) (app2 (eqPs x.gs y.gs) (app2 (eqPs x.hs y.hs) (app2 (eqPs x.ng y.ng) (app2 (eqPs x.g2 y.g2) (app2 (eqPs x.h2 y.h2) (eqPs x.mp y.mp))))))))
/-- the first (claimed) is no more than the second (known) -/
def subCon : Con → Con → Option (List Prop)
  | .flat l, .flat r => preSAs l r
  | .tab n cols, .tab n' cols' => app2 (some [n ≤ n']) (subCols n cols cols')
  | .room n l, .room n' r => app2 (some [n = n']) (preSAs l r)
  | .flat l, .room n r => app2 (some [l.length ≤ n]) (preSAs l r)
  | .obj t x I, .obj t' y J => (match Nat.beq t t' with | true => (match subPay x y with | some l => some ((I = J) :: l) | none => none) | false => none)
  | .flat [], .obj _ _ _ => some []
  | _, _ => none
def subReg (x y : Reg) : Option (List Prop) :=
  match x.rw, y.rw with
  | true, false => none
  | false, true => (match x.con with | .obj .. => none | _ => subCon x.con y.con)
  | _, _ => subCon x.con y.con
theorem subReg_ok {x y : Reg} {l : List Prop} (h : subReg x y = some l) : (x.rw = true → y.rw = true) ∧ subCon x.con y.con = some l ∧ (x.rw = false → (∃ t p I, x.con = .obj t p I) → y.rw = false) := by
  unfold subReg at h
  split at h
  · cases h
  · rename_i h1 h2
    split at h
    · cases h
    · rename_i hne
      exact ⟨fun _ => h2, h, fun _ ⟨t, p, I, hp⟩ => absurd hp (hne t p I)⟩
  · rename_i h1 h2
    refine ⟨fun hx => ?_, h, fun hx _ => ?_⟩
    · cases hy : y.rw with
      | true => rfl
      | false => exact absurd hy (h1 hx)
    · cases hy : y.rw with
      | false => rfl
      | true => exact absurd hy (h2 hx)

/-- 'm'' claimed (its names renamed by ρ) of the known 'm' -/
def subMem (ρ : List Nat) (m : Mem) : Nat → Mem → Option (List Prop)
  | _, [] => some []
  | j, none :: r => subMem ρ m (j + 1) r
  | j, some x :: r => (match m.reg (rn ρ j) with
    | some y => app2 (subReg ⟨x.rw, x.con.ren ρ⟩ y) (subMem ρ m (j + 1) r)
    | none => none)

def nodupB : List Nat → Bool
  | [] => true
  | x :: l => (l.all fun y => !(Nat.beq x y)) && nodupB l

theorem nodupB_inj : ∀ {l : List Nat}, nodupB l = true → ∀ i j : Nat, i < l.length → j < l.length → l.getD i i = l.getD j j → i = j
  | [], _, i, _, hi, _, _ => by simp at hi
  | x :: l, h, i, j, hi, hj, heq => by
    simp only [nodupB, Bool.and_eq_true] at h
    have hne : ∀ k, k < l.length → x ≠ l.getD k (k + 1) := by
      intro k hk hx
      have := List.all_eq_true.1 h.1 (l[k]) (List.getElem_mem hk)
      simp [hk] at hx
      simp [← hx] at this
    have hget : ∀ k d d' : Nat, k < l.length → l.getD k d = l.getD k d' := by
      intro k d d' hk; simp [hk]
    cases i with
    | zero =>
      cases j with
      | zero => rfl
      | succ j => simp only [List.getD_cons_zero, List.getD_cons_succ] at heq; exact absurd heq (hne j (by simpa using hj))
    | succ i =>
      cases j with
      | zero => simp only [List.getD_cons_zero, List.getD_cons_succ] at heq; exact absurd heq.symm (hne i (by simpa using hi))
      | succ j =>
        simp only [List.getD_cons_succ] at heq
        have hi' : i < l.length := by simpa using hi
        have hj' : j < l.length := by simpa using hj
        rw [hget i (i + 1) i hi', hget j (j + 1) j hj'] at heq
        rw [nodupB_inj h.2 i j hi' hj' heq]

theorem subCols_at {n : Nat} : ∀ {x y : List Col} {l : List Prop}, subCols n x y = some l → Holds l → x.length = y.length ∧ ∀ (c : Nat) (q : Col), x[c]? = some q → ∃ q', y[c]? = some q' ∧ ∀ r, r < n → q.at_ r = q'.at_ r
  | [], [], _, _, _ => ⟨rfl, fun c q hq => by simp at hq⟩
  | x :: xs, y :: ys, l, h, hl => by
    obtain ⟨a, b, h1, h2, rfl⟩ := app2_some h
    obtain ⟨h3, h4⟩ := holds_app hl
    obtain ⟨h5, h6⟩ := subCols_at h2 h4
    refine ⟨by simp [h5], fun c q hq => ?_⟩
    cases c with
    | zero =>
      simp at hq
      subst hq
      refine ⟨y, rfl, ?_⟩
      unfold subCol at h1
      split at h1
      · split at h1
        · rename_i hk
          cases h1
          have := kind_eq hk
          subst this
          intro r hr
          simp only [Col.at_]; rw [h3 _ (List.mem_cons_self) r hr]
        · cases h1
      · cases h1
        intro r hr
        simp only [Col.at_]; rw [h3 _ (List.mem_cons_self) r hr]
      · cases h1
        intro r hr
        simp only [Col.at_]; rw [h3 _ (List.mem_cons_self) r hr]
      · cases h1
        intro r hr
        simp only [Col.at_]; rw [h3 _ (List.mem_cons_self) r hr]
      · cases h1
    | succ c => exact h6 c q (by simpa using hq)
  | [], _ :: _, _, h, _ => by cases h
  | _ :: _, [], _, h, _ => by cases h

theorem eqPs_eq {α : Type} : ∀ {xs ys : List α} {l : List Prop}, eqPs xs ys = some l → Holds l → xs = ys
  | [], [], _, _, _ => rfl
  | x :: xs, y :: ys, l, h, hl => by
    simp only [eqPs] at h
    split at h
    · rename_i r hr
      cases h
      have h1 := hl _ (List.mem_cons_self)
      have h2 := eqPs_eq hr (fun p hp => hl p (List.mem_cons_of_mem _ hp))
      rw [h1, h2]
    · cases h
  | [], _ :: _, _, h, _ => by cases h
  | _ :: _, [], _, h, _ => by cases h
theorem subPay_eq {x y : Pay} {l : List Prop} (h : subPay x y = some l) (hl : Holds l) : x = y := by
  obtain ⟨a, b, h1, h2, rfl⟩ := app2_some h
  obtain ⟨c, d, h3, h4, rfl⟩ := app2_some h2
  obtain ⟨e, f, h5, h6, rfl⟩ := app2_some h4
  obtain ⟨g, k, h7, h8, rfl⟩ := app2_some h6
  obtain ⟨g', k', h9, h10, rfl⟩ := app2_some h8
  obtain ⟨g'', k'', h11, h12, rfl⟩ := app2_some h10
  obtain ⟨g3, k3, h13, h15, rfl⟩ := app2_some h12
  obtain ⟨g4, k4, h14, h16, rfl⟩ := app2_some h15
  obtain ⟨q1, r1⟩ := holds_app hl
  obtain ⟨q2, r2⟩ := holds_app r1
  obtain ⟨q3, r3⟩ := holds_app r2
  obtain ⟨q4, r4⟩ := holds_app r3
  obtain ⟨q5, r5⟩ := holds_app r4
  obtain ⟨q6, r6⟩ := holds_app r5
  obtain ⟨q7, r7⟩ := holds_app r6
  obtain ⟨q8, q9⟩ := holds_app r7
  have e1 := eqPs_eq h1 q1
  have e2 := eqPs_eq h3 q2
  have e3 := eqPs_eq h5 q3
  have e4 := eqPs_eq h7 q4
  have e5 := eqPs_eq h9 q5
  have e6 := eqPs_eq h11 q6
  have e7 := eqPs_eq h13 q7
  have e8 := eqPs_eq h14 q8
  have e9 := eqPs_eq h16 q9
  cases x; cases y
  simp only at e1 e2 e3 e4 e5 e6 e7 e8 e9
  rw [e1, e2, e3, e4, e5, e6, e7, e8, e9]
/-- an object claimed is the one that is known -/
theorem subCon_obj {y : Con} {t : Nat} {x : Pay} {I : ObjI} {l : List Prop} (h : subCon (.obj t x I) y = some l) (hl : Holds l) : y = .obj t x I := by
  unfold subCon at h
  split at h
  · rename_i heq; cases heq
  · rename_i heq; cases heq
  · rename_i heq; cases heq
  · rename_i heq; cases heq
  · rename_i t1 x1 I1 t2 y2 J2 heq
    cases heq
    split at h
    · rename_i ht
      split at h
      · rename_i r hr
        cases h
        have h1 := hl _ (List.mem_cons_self)
        have h2 := subPay_eq hr (fun p hp => hl p (List.mem_cons_of_mem _ hp))
        rw [Nat.beq_iff.1 ht, h1, h2]
      · cases h
    · cases h
  · rename_i heq; cases heq
  · cases h

theorem subCon_cell {e : Env} {x y : Con} {l : List Prop} (h : subCon x y = some l) (hl : Holds l) : (∀ j v, x.cell e j = some v → y.cell e j = some v) ∧ (∀ n l, x = .room n l → ∃ l', y = .room n l') := by
  unfold subCon at h
  split at h
  · refine ⟨fun j v hv => preSAs_den h hl j v hv, fun es k hm => by cases hm⟩
  · rename_i n cols n' cols'
    obtain ⟨a, b, h1, h2, rfl⟩ := app2_some h
    obtain ⟨h3, h4⟩ := holds_app hl
    cases h1
    have hn : n ≤ n' := h3 _ (List.mem_cons_self)
    obtain ⟨h5, h6⟩ := subCols_at h2 h4
    refine ⟨fun j v hv => ?_, fun es k hm => by cases hm⟩
    simp only [Con.cell] at hv ⊢
    rw [← h5]
    split at hv
    · rename_i hlt
      rw [if_pos (by omega)]
      cases hq : cols[j % cols.length]? with
      | none => rw [hq] at hv; cases hv
      | some q =>
        obtain ⟨q', hq', hat⟩ := h6 _ q hq
        rw [hq] at hv
        rw [hq', Option.map_some, ← hat _ hlt]; exact hv
    · cases hv
  · rename_i n l n' r
    obtain ⟨a, b, h1, h2, rfl⟩ := app2_some h
    obtain ⟨h3, h4⟩ := holds_app hl
    cases h1
    have hn : n = n' := h3 _ (List.mem_cons_self)
    subst hn
    refine ⟨fun j v hv => ?_, fun n2 l2 hm => (by cases hm; exact ⟨_, rfl⟩)⟩
    simp only [Con.cell] at hv ⊢
    split at hv
    · rename_i hj
      rw [if_pos hj]
      exact preSAs_den h2 h4 j v hv
    · cases hv
  · rename_i l n r
    obtain ⟨a, b, h1, h2, rfl⟩ := app2_some h
    obtain ⟨h3, h4⟩ := holds_app hl
    cases h1
    have hn : l.length ≤ n := h3 _ (List.mem_cons_self)
    refine ⟨fun j v hv => ?_, fun n2 l2 hm => (by cases hm)⟩
    have hj : j < l.length := by
      simp only [Con.cell] at hv
      obtain ⟨x, hx, _⟩ := Option.map_eq_some_iff.1 hv
      exact (List.getElem?_eq_some_iff.1 hx).1
    have := preSAs_den h2 h4 j v hv
    simp only [Con.cell]
    rw [if_pos (by omega)]
    exact this
  · exact ⟨fun j v hv => (by cases hv), fun es k hm => (by cases hm)⟩
  · exact ⟨fun j v hv => (by cases hv), fun es k hm => (by cases hm)⟩
  · cases h

theorem subMem_get {ρ : List Nat} {m : Mem} : ∀ {r : Mem} {j0 : Nat} {l : List Prop}, subMem ρ m j0 r = some l → Holds l → ∀ (j : Nat) (x : Reg), r[j]? = some (some x) → ∃ y l', m.reg (rn ρ (j0 + j)) = some y ∧ subReg ⟨x.rw, x.con.ren ρ⟩ y = some l' ∧ Holds l'
  | [], _, _, _, _, j, x, hj => by simp at hj
  | none :: r, j0, l, h, hl, j, x, hj => by
    cases j with
    | zero => simp at hj
    | succ j =>
      obtain ⟨y, l', h1, h2, h3⟩ := subMem_get (r := r) h hl j x (by simpa using hj)
      exact ⟨y, l', by rw [← h1]; congr 2; omega, h2, h3⟩
  | some z :: r, j0, l, h, hl, j, x, hj => by
    simp only [subMem] at h
    split at h
    · rename_i y hy
      obtain ⟨a, b, h1, h2, rfl⟩ := app2_some h
      obtain ⟨h3, h4⟩ := holds_app hl
      cases j with
      | zero => simp at hj; subst hj; exact ⟨y, a, hy, h1, h3⟩
      | succ j =>
        obtain ⟨y', l', h5, h6, h7⟩ := subMem_get (r := r) h2 h4 j x (by simpa using hj)
        exact ⟨y', l', by rw [← h5]; congr 2; omega, h6, h7⟩
    · cases h

theorem some_ren {ρ : List Nat} {c : Con} (h : c.some_) : (c.ren ρ).some_ := by
  cases c with
  | flat l =>
    intro h0
    cases l with
    | nil => exact h rfl
    | cons x l => cases h0
  | tab n cols => exact h
  | room n l => exact h
  | obj t x I => exact h

theorem subCon_some {x y : Con} {l : List Prop} (h : subCon x y = some l) (hl : Holds l) (hs : x.some_) : y.some_ := by
  unfold subCon at h
  split at h
  · rename_i a b
    cases a with
    | nil => exact absurd rfl hs
    | cons x xs => cases b with
      | nil => cases h
      | cons y ys => intro h0; cases h0
  · rename_i n cols n' cols'
    obtain ⟨a, b, h1, h2, rfl⟩ := app2_some h
    obtain ⟨h3, h4⟩ := holds_app hl
    cases h1
    have hn : n ≤ n' := h3 _ (List.mem_cons_self)
    obtain ⟨h5, _⟩ := subCols_at h2 h4
    obtain ⟨h6, h7⟩ := hs
    refine ⟨by omega, ?_⟩
    intro h0
    rw [h0] at h5
    exact h7 (List.length_eq_zero_iff.1 h5)
  · rename_i n l n' r
    obtain ⟨a, b, h1, h2, rfl⟩ := app2_some h
    obtain ⟨h3, h4⟩ := holds_app hl
    cases h1
    have hn : n = n' := h3 _ (List.mem_cons_self)
    subst hn
    exact hs
  · rename_i l n r
    obtain ⟨a, b, h1, h2, rfl⟩ := app2_some h
    obtain ⟨h3, h4⟩ := holds_app hl
    cases h1
    have hn : l.length ≤ n := h3 _ (List.mem_cons_self)
    have h0 : 0 < l.length := List.length_pos_iff.2 hs
    exact (by omega : 0 < n)
  · exact hs.elim
  · exact absurd rfl hs
  · cases h

/-- Less is known, by other names. -/
theorem Rel.sub {e : Env} {w0 : World} {W : Nat → Prop} {m m' : Mem} {w : World} (h : Rel e w0 W m w) {ρ : List Nat} {l : List Prop} (hs : subMem ρ m 0 m' = some l) (hl : Holds l)
    (hlen : m'.length ≤ ρ.length) (hnd : nodupB ρ = true) : Rel (renE e ρ) w0 W m' w := by
  have get : ∀ (i : Nat) (r : Reg), m'[i]? = some (some r) → ∃ y l', m[rn ρ i]? = some (some y) ∧ (r.rw = true → y.rw = true) ∧ subCon (r.con.ren ρ) y.con = some l' ∧ Holds l' := by
    intro i r hi
    obtain ⟨y, l', h1, h2, h3⟩ := subMem_get hs hl i r hi
    rw [Nat.zero_add] at h1
    obtain ⟨g1, g2, _⟩ := subReg_ok h2
    exact ⟨y, l', reg_of h1, g1, g2, h3⟩
  refine ⟨h.fr, fun i r hi => ?_, ?_, ?_, ?_, h.ro.to fun i t x I hi => ?_⟩
  · obtain ⟨y, l', h1, h2, h3, h4⟩ := get i r hi
    have hR := h.reg _ _ h1
    obtain ⟨h5, h6⟩ := subCon_cell (e := e) h3 h4
    refine ⟨fun j v hv => ?_, fun es k hm => ?_⟩
    · rw [← Con.cell_ren] at hv
      obtain ⟨a, ha, hc, hf⟩ := hR.cell j v (h5 j v hv)
      exact ⟨a, ha, hc, fun hr => hf (h2 hr)⟩
    · intro j2 hj2
      obtain ⟨l2, hl2⟩ := h6 es _ (by rw [hm]; rfl)
      obtain ⟨a, u, ha, hc, hf⟩ := hR.map es l2 hl2 j2 hj2
      exact ⟨a, u, ha, hc, fun hr => hf (h2 hr)⟩
  · intro i j ri rj a b hij hi hj hrw hsi hsj ha hb
    obtain ⟨yi, li, h1, h2, h3, h4⟩ := get i ri hi
    obtain ⟨yj, lj, h5, h6, h7, h8⟩ := get j rj hj
    have hil : i < ρ.length := Nat.lt_of_lt_of_le (List.getElem?_eq_some_iff.1 hi).1 hlen
    have hjl : j < ρ.length := Nat.lt_of_lt_of_le (List.getElem?_eq_some_iff.1 hj).1 hlen
    exact h.sep (rn ρ i) (rn ρ j) yi yj a b (fun hh => hij (nodupB_inj hnd i j hil hjl hh)) h1 h5 (h2 hrw) (subCon_some h3 h4 (some_ren hsi)) (subCon_some h7 h8 (some_ren hsj)) ha hb
  · intro i r a hi hrw hsi ha
    obtain ⟨y, l', h1, h2, h3, h4⟩ := get i r hi
    exact h.wr (rn ρ i) y a h1 (h2 hrw) (subCon_some h3 h4 (some_ren hsi)) ha
  · obtain ⟨F, hF⟩ := h.obj
    have hI : ∀ {i x I}, IsO m' i x I → IsO m (rn ρ i) x I ∧ i < ρ.length := fun {i x I} hi => by
      obtain ⟨t, hi⟩ := hi
      obtain ⟨y, l', h1, hrw, h3, h4⟩ := get i _ hi
      have h5 := subCon_obj h3 h4
      obtain ⟨rw', c'⟩ := y
      have h5 : c' = _ := h5
      subst h5
      obtain rfl : rw' = true := hrw rfl
      exact ⟨⟨_, h1⟩, Nat.lt_of_lt_of_le (List.getElem?_eq_some_iff.1 hi).1 hlen⟩
    refine ⟨fun j => F (rn ρ j), ⟨fun hi => hF.ok (hI hi).1, fun {i j x y I J b} hij hi hj hb => hF.apart (fun hh => hij (nodupB_inj hnd i j (hI hi).2 (hI hj).2 hh)) (hI hi).1 (hI hj).1 hb, fun {i j x I r a} hi hj hs ha => ?_, fun hi hb => hF.wr (hI hi).1 hb⟩⟩
    obtain ⟨y, l', h1, _, h3, h4⟩ := get j r hj
    exact hF.off (hI hi).1 h1 (subCon_some h3 h4 (some_ren hs)) ha
  · obtain ⟨y, l', h1, h2, h3⟩ := subMem_get hs hl i _ hi
    rw [Nat.zero_add] at h1
    obtain ⟨_, g2, g3⟩ := subReg_ok h2
    have h5 := subCon_obj g2 h3
    have h6 := g3 rfl ⟨_, _, _, rfl⟩
    obtain ⟨rw', c'⟩ := y
    have h5 : c' = _ := h5
    have h6 : rw' = false := h6
    subst h5
    subst h6
    exact ⟨rn ρ i, reg_of h1, rfl⟩

end Go.Sx

/-
  Part 9b: what is said of a memory, said otherwise: slices that are none, rows counted from a later one, several regions as one object.
-/
namespace Go.Sx
open Go.RowKit

def Col.from_ (r : Nat) : Col → Col
  | .int k g => .int k fun q => g (q + r)
  | .bool g => .bool fun q => g (q + r)
  | .val g => .val fun q => g (q + r)

section
variable {e e' : Env} {w0 : World} {W : Nat → Prop} {m : Mem} {w : World}

theorem from_at (r : Nat) (q : Col) (j : Nat) : (q.from_ r).at_ j = q.at_ (j + r) := by cases q <;> rfl

/-- the blocks of a memory -/
def footB (e : Env) (G : Nat → Nat → Prop) (m : Mem) (b : Nat) : Prop := (∃ i r a, m[i]? = some (some r) ∧ r.con.some_ ∧ e i = some a ∧ a.block = b) ∨ ∃ i x I, IsO m i x I ∧ G i b

theorem ROs.rw (hrw : ∀ (i : Nat) (r : Reg), m[i]? = some (some r) → r.rw = true) : ROs e w0 W m := .none fun i t x I hi => Bool.noConfusion (hrw i _ hi)

theorem Rel.own (h : Rel e w0 W m w) {G : Nat → Nat → Prop} (hG : Objs e w0 W m w G) (hrw : ∀ (i : Nat) (r : Reg), m[i]? = some (some r) → r.rw = true) : Rel e w (footB e G m) m w :=
  ⟨Fr.refl _ _, h.reg, h.sep, fun i r a hi _ hs ha => .inl (.inl ⟨i, r, a, hi, hs, ha, rfl⟩), ⟨G, hG.ok, hG.apart, hG.off, fun hi hb => .inl (.inr ⟨_, _, _, hi, hb⟩)⟩, .rw hrw⟩
theorem footB_lt (h : Rel e w0 W m w) {G : Nat → Nat → Prop} (hG : Objs e w0 W m w G) {b : Nat} (hb : footB e G m b) : b < w.heap.size := by
  rcases hb with ⟨i, r, a, hi, hs, ha, rfl⟩ | ⟨i, x, I, hi, hb⟩
  · have hR := h.reg i r hi
    rw [ha] at hR
    exact hR.lt hs
  · exact I.lt (hG.ok hi) b hb

/-- a memory whose blocks stay is as it was -/
theorem Rel.frame {F : Nat → Prop} (h : Rel e w F m w) (hrw : ∀ (i : Nat) (r : Reg), m[i]? = some (some r) → r.rw = true) {w' : World} (hsz : w.heap.size ≤ w'.heap.size) (hb : ∀ b, F b → w'.heap[b]? = w.heap[b]?) : Rel e w' F m w' := by
  have hF : ∀ i r a, m[i]? = some (some r) → r.con.some_ → e i = some a → F a.block := fun i r a hi hs ha => by
    have hR := h.reg i r hi
    rw [ha] at hR
    have := hR.lt hs
    rcases h.wr i r a hi (hrw i r hi) hs ha with h1 | h1
    · exact h1
    · omega
  obtain ⟨G, hG⟩ := h.obj
  have hGF : ∀ {i x I b}, IsO m i x I → G i b → F b := fun {i x I b} hi hgb => by
    have := I.lt (hG.ok hi) b hgb
    rcases hG.wr hi hgb with h1 | h1
    · exact h1
    · omega
  exact ⟨Fr.refl _ _, fun i r hi => (h.reg i r hi).keep fun a ha hs => hb _ (hF i r a hi hs ha), h.sep, fun i r a hi _ hs ha => .inl (hF i r a hi hs ha),
    ⟨G, fun {i x I} hi => I.frame (hG.ok hi) hsz fun b hgb => hb b (hGF hi hgb), hG.apart, hG.off, fun hi hgb => .inl (hGF hi hgb)⟩, .rw hrw⟩

/-- a kind of objects: in which regions what it holds lies; some of it nobody need know -/
structure ObK where
  Hid : Type
  mem : Pay → Hid → Mem
  inv : Pay → Hid → Prop
  rw : ∀ (x : Pay) (h : Hid) (i : Nat) (r : Reg), (mem x h)[i]? = some (some r) → r.rw = true
  head : ∀ x h, ∃ c l, (mem x h)[0]? = some (some ⟨true, .flat (c :: l)⟩)

def boxI (K : ObK) : ObjI where
  ok := fun x w A F => ∃ h e, K.inv x h ∧ e 0 = A ∧ Rel e w F (K.mem x h) w ∧ ∀ b, F b → b < w.heap.size
  some_ := fun {x w A F} ⟨h, e, _, h0, hr, _⟩ => by
    obtain ⟨c, l, hh⟩ := K.head x h
    obtain ⟨a, ha, _⟩ := (hr.reg 0 _ hh).cell 0 (c.den e) rfl
    exact ⟨a, by rw [← h0, ha]⟩
  lt := fun ⟨_, _, _, _, _, hl⟩ => hl
  frame := fun {x w A F w'} ⟨h, e, hi, h0, hr, hl⟩ hsz hb => ⟨h, e, hi, h0, hr.frame (K.rw x h) hsz hb, fun b hF => Nat.lt_of_lt_of_le (hl b hF) hsz⟩

/-- what a region holds is said otherwise -/
theorem Rel.recon (h : Rel e w0 W m w) {i : Nat} {b : Bool} {c c' : Con} (hi : m[i]? = some (some ⟨b, c⟩)) (hc : ∀ j v, c'.cell e j = some v → c.cell e j = some v) (hs : c'.some_ → c.some_) (hmp : ∀ es k, c' ≠ .room es k) (hob : ∀ t x I, c' ≠ .obj t x I) : Rel e w0 W (m.set i (some ⟨b, c'⟩)) w := by
  have hil : i < m.length := (List.getElem?_eq_some_iff.1 hi).1
  have get : ∀ (q : Nat) (r : Reg), (m.set i (some ⟨b, c'⟩))[q]? = some (some r) → ∃ r' : Reg, m[q]? = some (some r') ∧ (r.rw = true → r'.rw = true) ∧ (r.con.some_ → r'.con.some_) := by
    intro q r hq
    by_cases hiq : i = q
    · subst hiq
      rw [List.getElem?_set_self hil] at hq
      cases hq
      exact ⟨_, hi, id, hs⟩
    · rw [List.getElem?_set_ne hiq] at hq
      exact ⟨r, hq, id, id⟩
  refine ⟨h.fr, fun q r hq => ?_, fun q j rq rj a b hqj hq hj hrw hsq hsj ha hb => ?_, fun q r a hq hrw hsq ha => ?_,
    h.obj.imp fun F hF => hF.to (fun hj => ⟨(hj.of_set (fun _ _ _ _ hh => by cases hh; exact hob _ _ _ rfl)).2, rfl⟩) (Nat.le_refl _) (fun _ _ => rfl) (fun hi hj hs ha => by
      obtain ⟨r', h1, _, h3⟩ := get _ _ hj
      exact hF.off (hi.of_set (fun _ _ _ _ hh => by cases hh; exact hob _ _ _ rfl)).2 h1 (h3 hs) ha), h.ro.set i fun t x I hh => by cases hh; exact hob _ _ _ rfl⟩
  · by_cases hiq : i = q
    · subst hiq
      rw [List.getElem?_set_self hil] at hq
      cases hq
      have hR := h.reg i _ hi
      exact ⟨fun j v hv => hR.cell j v (hc j v hv), fun es k hm => absurd hm (hmp es k)⟩
    · rw [List.getElem?_set_ne hiq] at hq
      exact h.reg q r hq
  · obtain ⟨rq', h1, h2, h3⟩ := get q rq hq
    obtain ⟨rj', h4, _, h5⟩ := get j rj hj
    exact h.sep q j rq' rj' a b hqj h1 h4 (h2 hrw) (h3 hsq) (h5 hsj) ha hb
  · obtain ⟨rq', h1, h2, h3⟩ := get q r hq
    exact h.wr q rq' a h1 (h2 hrw) (h3 hsq) ha

/-- cell c, which holds no slice, holds one of no rows -/
def gNil (m : Mem) (o c st : Nat) (cols : List Col) : Option Mem :=
  match m[o]? with
  | some (some ⟨true, .flat l⟩) => (match l[c]? with
    | some (.v (.slice none 0 0)) => some (m.set o (some ⟨true, .flat (l.set c (.slc m.length st 0 0 0))⟩) ++ [some ⟨true, .tab 0 cols⟩])
    | _ => none)
  | _ => none

theorem flat_set_cell {l : List SA} {c : Nat} {x y : SA} (hx : l[c]? = some x) (hxy : y.den e = x.den e) (j : Nat) (v : Value) (hv : (Con.flat (l.set c y)).cell e j = some v) : (Con.flat l).cell e j = some v := by
  simp only [Con.cell] at hv ⊢
  by_cases hcj : c = j
  · subst hcj
    rw [List.getElem?_set_self (List.getElem?_eq_some_iff.1 hx).1] at hv
    rw [hx]
    rw [← hv, Option.map_some, Option.map_some, hxy]
  · rw [List.getElem?_set_ne hcj] at hv; exact hv

theorem set_push {m : Mem} {o : Nat} (ho : o < m.length) (y x : Option Reg) : (m ++ [x]).set o y = m.set o y ++ [x] := by
  rw [List.set_append_left _ _ ho]

theorem gNil_ok (h : Rel e w0 W m w) (hok : Mem.ok m = true) {o c st : Nat} {cols : List Col} {m' : Mem} (hg : gNil m o c st cols = some m') : ∃ e', (∀ i, i < m.length → e' i = e i) ∧ Rel e' w0 W m' w ∧ m'.length = m.length + 1 := by
  unfold gNil at hg
  split at hg
  · rename_i l ho
    split at hg
    · rename_i hc
      cases hg
      have hol : o < m.length := (List.getElem?_eq_some_iff.1 ho).1
      refine ⟨fun i => if i < m.length then e i else none, fun i hi => if_pos hi, ?_, by simp⟩
      have h1 : Rel (fun i => if i < m.length then e i else none) w0 W (m ++ [some ⟨true, .tab 0 cols⟩]) w :=
        h.push (A := none) (fun i hi => if_pos hi) hok (if_neg (Nat.lt_irrefl _)) ⟨fun j v hv => by simp [Con.cell] at hv, fun es k hm => by cases hm⟩ (fun hs => absurd hs.1 (Nat.lt_irrefl 0)) (fun hs => absurd hs.1 (Nat.lt_irrefl 0))
          (h.obj.imp fun F hF => ⟨hF, fun _ hs => absurd hs.1 (Nat.lt_irrefl 0)⟩)
      have h2 := h1.recon (i := o) (c' := .flat (l.set c (.slc m.length st 0 0 0))) (by rw [List.getElem?_append_left hol]; exact ho) (flat_set_cell hc (by simp [SA.den, at_])) (fun hs hl => hs (by rw [hl]; rfl)) (fun es k hm => by cases hm) (fun t x I hm => by cases hm)
      rw [set_push hol] at h2
      exact h2
    · cases hg
  · cases hg

/-- the slice of cell c: its rows counted from its own beginning -/
def gBase (m : Mem) (o c : Nat) : Option Mem :=
  match m[o]? with
  | some (some ⟨true, .flat l⟩) => (match l[c]? with
    | some (.slc i st r len cap) => (match m[i]?, Nat.beq i o with
      | some (some ⟨true, .tab N cols⟩), false => (match Nat.beq st cols.length with
        | true => some ((m.set i none).set o (some ⟨true, .flat (l.set c (.slc m.length st 0 len cap))⟩) ++ [some ⟨true, .tab (N - r) (cols.map (Col.from_ r))⟩])
        | false => none)
      | _, _ => none)
    | _ => none)
  | _ => none

theorem gBase_ok (h : Rel e w0 W m w) (hok : Mem.ok m = true) {o c : Nat} {m' : Mem} (hg : gBase m o c = some m') : ∃ e', (∀ i, i < m.length → e' i = e i) ∧ Rel e' w0 W m' w ∧ m'.length = m.length + 1 := by
  unfold gBase at hg
  split at hg
  · rename_i l ho
    split at hg
    · rename_i i st r len cap hc
      split at hg
      · rename_i N cols hi hio
        split at hg
        · rename_i hst
          cases hg
          have hst := Nat.beq_iff.1 hst
          subst hst
          have hio : i ≠ o := by intro hh; rw [hh] at hio; simp at hio
          have hol : o < m.length := (List.getElem?_eq_some_iff.1 ho).1
          have hil : i < m.length := (List.getElem?_eq_some_iff.1 hi).1
          have hlen : (m.set i none).length = m.length := by simp
          let e2 : Env := fun q => if q < m.length then e q else at_ e i (r * cols.length)
          have hR := h.reg i _ hi
          have hblk : ∀ {a : Addr}, at_ e i (r * cols.length) = some a → ∃ b, e i = some b ∧ b.block = a.block := by
            intro a ha
            simp only [at_, Option.map_eq_some_iff] at ha
            obtain ⟨b, hb, rfl⟩ := ha
            exact ⟨b, hb, by rw [add_block]⟩
          have hsm : (Con.tab (N - r) (cols.map (Col.from_ r))).some_ → (Con.tab N cols).some_ := fun hs => ⟨by have := hs.1; omega, fun hh => hs.2 (by rw [hh]; rfl)⟩
          have hno : ∀ q (rq : Reg), (m.set i none)[q]? = some (some rq) → q ≠ i ∧ m[q]? = some (some rq) := by
            intro q rq hq
            by_cases hqi : i = q
            · subst hqi; rw [List.getElem?_set_self hil] at hq; cases hq
            · rw [List.getElem?_set_ne hqi] at hq; exact ⟨Ne.symm hqi, hq⟩
          have h1 : Rel e2 w0 W (m.set i none ++ [some ⟨true, .tab (N - r) (cols.map (Col.from_ r))⟩]) w := by
            refine (h.drop i).push (A := at_ e i (r * cols.length)) (fun q hq => if_pos (by rw [hlen] at hq; exact hq)) (Mem.ok_drop hok i) (by rw [hlen]; exact if_neg (Nat.lt_irrefl _)) ⟨fun j v hv => ?_, fun es k hm => by cases hm⟩ (fun hs q rq a b hq hsq ha hb => ?_) (fun hs a ha => ?_) ?_
            · simp only [Con.cell, List.length_map] at hv
              split at hv
              · rename_i hlt
                rw [List.getElem?_map] at hv
                cases hq : cols[j % cols.length]? with
                | none => rw [hq] at hv; cases hv
                | some q =>
                  rw [hq] at hv
                  simp only [Option.map_some, Option.some.injEq, from_at] at hv
                  subst hv
                  obtain ⟨a, ha, hcell, hf⟩ := hR.cell _ _ (tab_cell (e := e) (r := j / cols.length + r) (c := j % cols.length) (by have : j / cols.length < N - r := hlt; generalize j / cols.length = z at *; omega) hq)
                  have hj : r * cols.length + j = (j / cols.length + r) * cols.length + j % cols.length := by
                    have := Nat.div_add_mod j cols.length
                    rw [Nat.add_mul, Nat.mul_comm (j / cols.length)]; omega
                  refine ⟨a.add (r * cols.length), by simp [at_, ha], ?_, fun _ => ?_⟩
                  · rw [add_add, hj]; exact hcell
                  · rw [add_add, hj]; exact hf rfl
              · cases hv
            · obtain ⟨b', hb', hbb⟩ := hblk ha
              obtain ⟨hqi, hq'⟩ := hno q rq hq
              rw [← hbb]
              exact h.sep i q _ rq b' b (Ne.symm hqi) hi hq' rfl (hsm hs) hsq hb' hb
            · obtain ⟨b', hb', hbb⟩ := hblk ha
              rw [← hbb]
              exact h.wr i _ b' hi rfl (hsm hs) hb'
            · obtain ⟨F, hF⟩ := h.obj
              have hO : ∀ {q x I}, IsO (m.set i none) q x I → IsO m q x I := fun hq => (hq.of_set (fun _ _ _ _ hh => by cases hh)).2
              refine ⟨F, hF.to (fun hj => ⟨hO hj, rfl⟩) (Nat.le_refl _) (fun _ _ => rfl) (fun hq hj hs ha => hF.off (hO hq) (hno _ _ hj).2 hs ha), fun hq hs ha => ?_⟩
              obtain ⟨b', hb', hbb⟩ := hblk ha
              rw [← hbb]
              exact hF.off (hO hq) hi (hsm hs) hb'
          refine ⟨e2, fun q hq => if_pos hq, ?_, by simp⟩
          have hden : SA.den e2 (.slc m.length cols.length 0 len cap) = SA.den e2 (.slc i cols.length r len cap) := by
            have h5 : e2 m.length = at_ e i (r * cols.length) := if_neg (Nat.lt_irrefl _)
            have h6 : e2 i = e i := if_pos hil
            simp only [SA.den, at_, h5, h6]
            cases e i <;> simp [Addr.add_zero']
          have h2 := h1.recon (i := o) (c' := .flat (l.set c (.slc m.length cols.length 0 len cap))) (by rw [List.getElem?_append_left (by rw [hlen]; exact hol), List.getElem?_set_ne hio]; exact ho) (flat_set_cell hc hden) (fun hs hl => hs (by rw [hl]; rfl)) (fun es k hm => by cases hm) (fun t x I hm => by cases hm)
          rw [set_push (by rw [hlen]; exact hol)] at h2
          exact h2
        · cases hg
      · cases hg
    · cases hg
  · cases hg

def dropAll : List Nat → Mem → Mem
  | [], m => m
  | i :: l, m => dropAll l (m.set i none)
theorem dropAll_len : ∀ {l : List Nat} {m : Mem}, (dropAll l m).length = m.length
  | [], _ => rfl
  | i :: l, m => by rw [dropAll, dropAll_len]; simp
theorem dropAll_get : ∀ {l : List Nat} {m : Mem} {q : Nat} {r : Reg}, (dropAll l m)[q]? = some (some r) → q ∉ l ∧ m[q]? = some (some r)
  | [], _, _, _, h => ⟨by simp, h⟩
  | i :: l, m, q, r, h => by
    obtain ⟨h1, h2⟩ := dropAll_get (l := l) h
    by_cases hqi : i = q
    · subst hqi
      rcases Nat.lt_or_ge i m.length with hl | hl
      · rw [List.getElem?_set_self hl] at h2; cases h2
      · rw [List.getElem?_eq_none (by simpa using hl)] at h2; cases h2
    · rw [List.getElem?_set_ne hqi] at h2
      exact ⟨by simp [Ne.symm hqi, h1], h2⟩

/-- the regions of ρ are one object -/
def gBox (m : Mem) (ρ : List Nat) (t : Nat) (x : Pay) (K : ObK) (hd : K.Hid) : Option (List Prop × Mem) :=
  match nodupB ρ, Nat.ble (K.mem x hd).length ρ.length, subMem ρ m 0 (K.mem x hd) with
  | true, true, some l => some (K.inv x hd :: l, dropAll ρ m ++ [some ⟨true, .obj t x (boxI K)⟩])
  | _, _, _ => none

theorem Objs.sub {F : Nat → Nat → Prop} (hF : Objs e w0 W m w F) {m' : Mem} {ρ : List Nat} {l : List Prop} (hs : subMem ρ m 0 m' = some l) (hl : Holds l) (hlen : m'.length ≤ ρ.length) (hnd : nodupB ρ = true) :
    Objs (renE e ρ) w0 W m' w (fun j => F (rn ρ j)) ∧ (∀ {i x I}, IsO m' i x I → IsO m (rn ρ i) x I) := by
  have hI : ∀ {i x I}, IsO m' i x I → IsO m (rn ρ i) x I ∧ i < ρ.length := fun {i x I} hi => by
    obtain ⟨t, hi⟩ := hi
    obtain ⟨y, l', h1, h2, h3⟩ := subMem_get hs hl i _ hi
    rw [Nat.zero_add] at h1
    obtain ⟨hne, h2, _⟩ := subReg_ok h2
    · have h5 := subCon_obj h2 h3
      obtain ⟨rw', c'⟩ := y
      have h5 : c' = _ := h5
      subst h5
      have hrw : rw' = true := by
        cases rw' with
        | true => rfl
        | false => exact hne rfl
      subst hrw
      exact ⟨⟨_, reg_of h1⟩, Nat.lt_of_lt_of_le (List.getElem?_eq_some_iff.1 hi).1 hlen⟩
  refine ⟨⟨fun hi => hF.ok (hI hi).1, fun {i j x y I J b} hij hi hj hb => hF.apart (fun hh => hij (nodupB_inj hnd i j (hI hi).2 (hI hj).2 hh)) (hI hi).1 (hI hj).1 hb, fun {i j x I r a} hi hj hs' ha => ?_, fun hi hb => hF.wr (hI hi).1 hb⟩, fun hi => (hI hi).1⟩
  obtain ⟨y, l', h1, h2, h3⟩ := subMem_get hs hl j r hj
  rw [Nat.zero_add] at h1
  obtain ⟨_, h2, _⟩ := subReg_ok h2
  · exact hF.off (hI hi).1 (reg_of h1) (subCon_some h2 h3 (some_ren hs')) ha

theorem rn_mem {ρ : List Nat} {j : Nat} (h : j < ρ.length) : rn ρ j ∈ ρ := by
  unfold rn
  rw [List.getD_eq_getElem?_getD, List.getElem?_eq_getElem h]
  exact List.getElem_mem h

theorem gBox_ok (h : Rel e w0 W m w) (hok : Mem.ok m = true) {ρ : List Nat} {t : Nat} {x : Pay} {K : ObK} {hd : K.Hid} {l : List Prop} {m' : Mem} (hg : gBox m ρ t x K hd = some (l, m')) (hl : Holds l) :
    ∃ e', (∀ i, i < m.length → e' i = e i) ∧ Rel e' w0 W m' w ∧ m'.length = m.length + 1 ∧ e' m.length = e (rn ρ 0) ∧ rn ρ 0 < m.length := by
  unfold gBox at hg
  split at hg
  · rename_i l' hnd hlen hs
    cases hg
    have hinv := hl _ (List.mem_cons_self)
    have hl : Holds l' := fun p hp => hl p (List.mem_cons_of_mem _ hp)
    have hlen := Nat.ble_iff.1 hlen
    obtain ⟨F, hF⟩ := h.obj
    obtain ⟨hG, hGO⟩ := hF.sub hs hl hlen hnd
    have hrel := h.sub hs hl hlen hnd
    have get : ∀ (i : Nat) (r : Reg), (K.mem x hd)[i]? = some (some r) → ∃ y, m[rn ρ i]? = some (some y) ∧ y.rw = true ∧ (r.con.some_ → y.con.some_) ∧ i < ρ.length := by
      intro i r hi
      obtain ⟨y, l', h1, h2, h3⟩ := subMem_get hs hl i r hi
      rw [Nat.zero_add] at h1
      obtain ⟨hne, h2, _⟩ := subReg_ok h2
      exact ⟨y, reg_of h1, hne (K.rw x hd i r hi), fun hs' => subCon_some h2 h3 (some_ren hs'), Nat.lt_of_lt_of_le (List.getElem?_eq_some_iff.1 hi).1 hlen⟩
    obtain ⟨c0, l0, h0⟩ := K.head x hd
    obtain ⟨y0, hy0, _, _, _⟩ := get 0 _ h0
    have hr0 : rn ρ 0 < m.length := (List.getElem?_eq_some_iff.1 hy0).1
    let e2 : Env := fun q => if q < m.length then e q else e (rn ρ 0)
    have hag : ∀ q, q < m.length → e2 q = e q := fun q hq => if_pos hq
    have hnew : e2 m.length = e (rn ρ 0) := if_neg (Nat.lt_irrefl _)
    have hcase : ∀ (q : Nat) (r : Reg), (dropAll ρ m ++ [some ⟨true, .obj t x (boxI K)⟩])[q]? = some (some r) → (q < m.length ∧ q ∉ ρ ∧ m[q]? = some (some r)) ∨ (q = m.length ∧ r = ⟨true, .obj t x (boxI K)⟩) := by
      intro q r hq
      rcases Nat.lt_or_ge q m.length with hlt | hge
      · rw [List.getElem?_append_left (by rw [dropAll_len]; exact hlt)] at hq
        obtain ⟨h1, h2⟩ := dropAll_get hq
        exact .inl ⟨hlt, h1, h2⟩
      · rw [List.getElem?_append_right (by rw [dropAll_len]; exact hge), dropAll_len] at hq
        rcases Nat.eq_zero_or_pos (q - m.length) with h1 | h1
        · rw [h1] at hq; simp at hq; exact .inr ⟨by omega, hq.symm⟩
        · rw [List.getElem?_eq_none (by simp; omega)] at hq; cases hq
    have hcaseO : ∀ {q y J}, IsO (dropAll ρ m ++ [some ⟨true, .obj t x (boxI K)⟩]) q y J → (q < m.length ∧ q ∉ ρ ∧ IsO m q y J) ∨ (q = m.length ∧ y = x ∧ J = boxI K) := by
      rintro q y J ⟨t', hq⟩
      rcases hcase q _ hq with ⟨h1, h2, h3⟩ | ⟨h1, h2⟩
      · exact .inl ⟨h1, h2, t', h3⟩
      · cases h2; exact .inr ⟨h1, rfl, rfl⟩
    have hregion : ∀ {q r}, (dropAll ρ m ++ [some ⟨true, .obj t x (boxI K)⟩])[q]? = some (some r) → r.con.some_ → q < m.length ∧ q ∉ ρ ∧ m[q]? = some (some r) := by
      intro q r hq hs'
      rcases hcase q r hq with h1 | ⟨_, h2⟩
      · exact h1
      · subst h2; exact hs'.elim
    have hfoot : ∀ {b}, footB (renE e ρ) (fun j => F (rn ρ j)) (K.mem x hd) b → (∃ i y a, i ∈ ρ ∧ m[i]? = some (some y) ∧ y.rw = true ∧ y.con.some_ ∧ e i = some a ∧ a.block = b) ∨ ∃ i y I, i ∈ ρ ∧ IsO m i y I ∧ F i b := by
      rintro b (⟨i, r, a, hi, hs', ha, hb⟩ | ⟨i, y, I, hi, hb⟩)
      · obtain ⟨y, h1, h2, h3, h4⟩ := get i r hi
        exact .inl ⟨_, y, a, rn_mem h4, h1, h2, h3 hs', ha, hb⟩
      · obtain ⟨_, hi'⟩ := hi
        exact .inr ⟨_, y, I, rn_mem (Nat.lt_of_lt_of_le (List.getElem?_eq_some_iff.1 hi').1 hlen), hGO ⟨_, hi'⟩, hb⟩
    refine ⟨e2, hag, ⟨h.fr, fun q r hq => ?_, fun q j rq rj a b hqj hq hj hrw hsq hsj ha hb => ?_, fun q r a hq hrw hsq ha => ?_, ⟨fun q b => if q < m.length then F q b else footB (renE e ρ) (fun j => F (rn ρ j)) (K.mem x hd) b, ?_⟩, h.ro.to fun q t' y J hq => ?_⟩, by simp [dropAll_len], hnew, hr0⟩
    · rcases hcase q r hq with ⟨h1, _, h3⟩ | ⟨_, h2⟩
      · rw [hag q h1]
        have hR := h.reg q r h3
        refine ⟨fun j v hv => ?_, hR.map⟩
        rw [Con.congr hag (Mem.ok_get hok h3)] at hv
        exact hR.cell j v hv
      · subst h2
        exact ⟨fun j v hv => (by cases hv), fun es k hm => (by cases hm)⟩
    · obtain ⟨h1, _, h2⟩ := hregion hq hsq
      obtain ⟨h3, _, h4⟩ := hregion hj hsj
      rw [hag q h1] at ha
      rw [hag j h3] at hb
      exact h.sep q j rq rj a b hqj h2 h4 hrw hsq hsj ha hb
    · obtain ⟨h1, _, h2⟩ := hregion hq hsq
      rw [hag q h1] at ha
      exact h.wr q r a h2 hrw hsq ha
    · have new_old : ∀ {q y J b}, q ∉ ρ → IsO m q y J → F q b → footB (renE e ρ) (fun j => F (rn ρ j)) (K.mem x hd) b → False := by
        intro q y J b hqρ hq hb hfb
        rcases hfoot hfb with ⟨i, z, a, hi, h1, _, h3, h4, rfl⟩ | ⟨i, z, I, hi, h1, h2⟩
        · exact hF.off hq h1 h3 h4 hb
        · exact hF.apart (fun hh => hqρ (by rw [hh]; exact hi)) hq h1 hb h2
      refine ⟨fun {q y J} hq => ?_, fun {q j y z I J b} hqj hq hj hb hb2 => ?_, fun {q j y I r a} hq hj hs' ha hb => ?_, fun {q y I b} hq hb => ?_⟩
      · rcases hcaseO hq with ⟨h1, _, h3⟩ | ⟨rfl, rfl, rfl⟩
        · simp only [if_pos h1]
          rw [hag q h1]; exact hF.ok h3
        · simp only [if_neg (Nat.lt_irrefl _)]
          exact ⟨hd, renE e ρ, hinv, hnew.symm, hrel.own hG (K.rw _ hd), fun b hb => footB_lt hrel hG hb⟩
      · rcases hcaseO hq with ⟨h1, h2, h3⟩ | ⟨rfl, rfl, rfl⟩ <;> rcases hcaseO hj with ⟨g1, g2, g3⟩ | ⟨rfl, rfl, rfl⟩
        · rw [if_pos h1] at hb
          rw [if_pos g1] at hb2
          exact hF.apart hqj h3 g3 hb hb2
        · rw [if_pos h1] at hb
          rw [if_neg (Nat.lt_irrefl _)] at hb2
          exact new_old h2 h3 hb hb2
        · rw [if_neg (Nat.lt_irrefl _)] at hb
          rw [if_pos g1] at hb2
          exact new_old g2 g3 hb2 hb
        · exact hqj rfl
      · obtain ⟨g1, g2, g3⟩ := hregion hj hs'
        rw [hag j g1] at ha
        rcases hcaseO hq with ⟨h1, h2, h3⟩ | ⟨rfl, rfl, rfl⟩
        · rw [if_pos h1] at hb
          exact hF.off h3 g3 hs' ha hb
        · rw [if_neg (Nat.lt_irrefl _)] at hb
          rcases hfoot hb with ⟨i, z, a', hi, h1, h2, h4, h5, h6⟩ | ⟨i, z, I, hi, h1, h2⟩
          · exact h.sep i j z r a' a (fun hh => g2 (by rw [← hh]; exact hi)) h1 g3 h2 h4 hs' h5 ha h6
          · exact hF.off h1 g3 hs' ha h2
      · rcases hcaseO hq with ⟨h1, h2, h3⟩ | ⟨rfl, rfl, rfl⟩
        · rw [if_pos h1] at hb
          exact hF.wr h3 hb
        · rw [if_neg (Nat.lt_irrefl _)] at hb
          rcases hfoot hb with ⟨i, z, a', hi, h1, h2, h4, h5, h6⟩ | ⟨i, z, I, hi, h1, h2⟩
          · rw [← h6]; exact h.wr i z a' h1 h2 h4 h5
          · exact hF.wr h1 h2
    · rcases hcase q _ hq with ⟨h1, _, h3⟩ | ⟨_, h2⟩
      · exact ⟨q, h3, hag q h1⟩
      · cases h2
  · cases hg

/-- cells of one kind, as rows of st -/
def gRows (m : Mem) (o st n0 : Nat) : Option Mem :=
  match m.reg o with
  | some ⟨rw, .flat l⟩ => (match Nat.beq st 0, Nat.beq l.length (n0 * st), asRows st n0 l with
    | false, true, .tab n cols => some (m.set o (some ⟨rw, .tab n cols⟩))
    | _, _, _ => none)
  | some ⟨_, .tab ..⟩ => some m
  | _ => none
theorem gRows_ok (h : Rel e w0 W m w) {o st n0 : Nat} {m' : Mem} (hg : gRows m o st n0 = some m') : Rel e w0 W m' w ∧ m'.length = m.length := by
  unfold gRows at hg
  split at hg
  · rename_i rw l hreg
    split at hg
    · rename_i n cols h0 h1 h2
      cases hg
      have h0 : st ≠ 0 := by intro hh; rw [hh] at h0; simp at h0
      have h1 := Nat.beq_iff.1 h1
      have hc : ∀ j v, (Con.tab n cols).cell e j = some v → (Con.flat l).cell e j = some v := fun j v hv => by
        rw [← h2] at hv
        exact asRows_cell (by omega) h1 hv
      refine ⟨h.recon (reg_of hreg) hc (fun hs hl => ?_) (fun es k hh => (by cases hh)) (fun t x I hh => (by cases hh)), by simp⟩
      obtain ⟨hn, hcl⟩ := hs
      cases hcc : cols with
      | nil => exact hcl hcc
      | cons q qs =>
        have h3 := tab_cell (e := e) (cols := cols) (c := 0) (q := q) hn (by rw [hcc]; rfl)
        have h4 := hc _ _ h3
        have h5 : l = [] := hl
        rw [h5] at h4
        simp [Con.cell] at h4
    · cases hg
  · cases hg
    exact ⟨h, rfl⟩
  · cases hg

/-! ### Slices that stand in what came in -/
def slA : Value → Option Addr | .slice A _ _ => A | _ => none
def slN : Value → Nat | .slice _ n _ => n | _ => 0
def slK : Value → Nat | .slice _ _ k => k | _ => 0

/-- of each value of which Q holds: it is a slice, and its rows are there to be read -/
def openI (Q : Value → Prop) (cs : Value → List Col) : ObjI where
  ok := fun _ w A F => (∃ a, A = some a) ∧ (∀ b, F b → b < w.heap.size) ∧ ∀ v, Q v → ∃ A' n k, v = .slice A' n k ∧ (∀ e, RegOK e w A' ⟨false, .tab n (cs v)⟩) ∧ ∀ a, A' = some a → (Con.tab n (cs v)).some_ → F a.block
  some_ := fun h => h.1
  lt := fun h => h.2.1
  frame := fun ⟨h1, h2, h3⟩ hsz hb => ⟨h1, fun b hF => Nat.lt_of_lt_of_le (h2 b hF) hsz, fun v hv => by
    obtain ⟨A', n, k, hvv, hr, hF⟩ := h3 v hv
    exact ⟨A', n, k, hvv, fun e => (hr e).keep fun a ha hs => hb _ (hF a ha hs), hF⟩⟩

/-- a region to be read alone is there too -/
theorem Rel.pushR (h : Rel e w0 W m w) (hag : ∀ i, i < m.length → e' i = e i) (hok : Mem.ok m = true) {A : Option Addr} (hn : e' m.length = A) {n : Nat} {cols : List Col} (hr : RegOK e' w A ⟨false, .tab n cols⟩)
    (hsep : (Con.tab n cols).some_ → ∀ (j : Nat) (rj : Reg) (a b : Addr), m[j]? = some (some rj) → rj.rw = true → rj.con.some_ → A = some a → e j = some b → a.block ≠ b.block)
    (hobj : ∃ F, Objs e w0 W m w F ∧ ∀ {j x I a}, IsO m j x I → (Con.tab n cols).some_ → A = some a → ¬ F j a.block) : Rel e' w0 W (m ++ [some ⟨false, .tab n cols⟩]) w := by
  have hget : ∀ i r', (m ++ [some (⟨false, .tab n cols⟩ : Reg)])[i]? = some (some r') → (m[i]? = some (some r') ∧ i < m.length) ∨ (i = m.length ∧ r' = ⟨false, .tab n cols⟩) := by
    intro i r' hi
    rcases Nat.lt_or_ge i m.length with hlt | hge
    · rw [List.getElem?_append_left hlt] at hi
      exact .inl ⟨hi, hlt⟩
    · rw [List.getElem?_append_right hge] at hi
      rcases Nat.eq_zero_or_pos (i - m.length) with h0 | h0
      · rw [h0] at hi; simp at hi; exact .inr ⟨by omega, hi.symm⟩
      · rw [List.getElem?_eq_none (by simp; omega)] at hi; cases hi
  refine ⟨h.fr, ?_, ?_, ?_, ?_, h.ro.push (fun t x I hh => by cases hh) hag⟩
  · intro i r' hi
    rcases hget i r' hi with ⟨hi, hlt⟩ | ⟨rfl, rfl⟩
    · rw [hag i hlt]
      have h2 := h.reg i r' hi
      refine ⟨fun j v hv => ?_, h2.map⟩
      rw [Con.congr hag (Mem.ok_get hok hi)] at hv
      exact h2.cell j v hv
    · rw [hn]; exact hr
  · intro i j ri rj a b hij hi hj hrw hsi hsj ha hb
    rcases hget i ri hi with ⟨hi1, hil⟩ | ⟨hi1, hi2⟩ <;> rcases hget j rj hj with ⟨hj1, hjl⟩ | ⟨hj1, hj2⟩
    · rw [hag i hil] at ha
      rw [hag j hjl] at hb
      exact h.sep i j ri rj a b hij hi1 hj1 hrw hsi hsj ha hb
    · subst hj2
      rw [hj1, hn] at hb
      rw [hag i hil] at ha
      exact (hsep hsj i ri b a hi1 hrw hsi hb ha).symm
    · subst hi2
      cases hrw
    · exact absurd (hi1.trans hj1.symm) hij
  · intro i ri a hi hrw hs ha
    rcases hget i ri hi with ⟨hi, hil⟩ | ⟨rfl, rfl⟩
    · rw [hag i hil] at ha
      exact h.wr i ri a hi hrw hs ha
    · cases hrw
  · obtain ⟨F, hF, hnew⟩ := hobj
    have hp : ∀ {j x I}, IsO (m ++ [some (⟨false, .tab n cols⟩ : Reg)]) j x I → j < m.length ∧ IsO m j x I := fun hj => hj.of_push fun rw t x I hh => by cases hh
    refine ⟨F, hF.to (fun hj => ⟨(hp hj).2, hag _ (hp hj).1⟩) (Nat.le_refl _) (fun _ _ => rfl) (fun {q x I j rj a} hq hj hs ha => ?_)⟩
    rcases hget j rj hj with ⟨hj, hjl⟩ | ⟨hj1, hj2⟩
    · rw [hag j hjl] at ha
      exact hF.off (hp hq).2 hj hs ha
    · subst hj2
      rw [hj1, hn] at ha
      exact hnew (hp hq).2 hs ha

theorem Rel.cold (h : Rel e w0 W m w) {i : Nat} {b : Bool} {n : Nat} {cols : List Col} (hi : m[i]? = some (some ⟨b, .tab n cols⟩)) : Rel e w0 W (m.set i (some ⟨false, .tab n cols⟩)) w := by
  have hil : i < m.length := (List.getElem?_eq_some_iff.1 hi).1
  have get : ∀ (q : Nat) (r : Reg), (m.set i (some ⟨false, .tab n cols⟩))[q]? = some (some r) → ∃ r' : Reg, m[q]? = some (some r') ∧ (r.rw = true → r'.rw = true) ∧ r'.con = r.con := by
    intro q r hq
    by_cases hiq : i = q
    · subst hiq
      rw [List.getElem?_set_self hil] at hq
      cases hq
      exact ⟨_, hi, (fun hh => (by cases hh)), rfl⟩
    · rw [List.getElem?_set_ne hiq] at hq
      exact ⟨r, hq, id, rfl⟩
  refine ⟨h.fr, fun q r hq => ?_, fun q j rq rj a b hqj hq hj hrw hsq hsj ha hb => ?_, fun q r a hq hrw hsq ha => ?_,
    h.obj.imp fun F hF => hF.to (fun hj => ⟨(hj.of_set (fun _ _ _ _ hh => by cases hh)).2, rfl⟩) (Nat.le_refl _) (fun _ _ => rfl) (fun hi hj hs ha => by
      obtain ⟨r', h1, _, h3⟩ := get _ _ hj
      exact hF.off (hi.of_set (fun _ _ _ _ hh => by cases hh)).2 h1 (by rw [h3]; exact hs) ha), h.ro.set i fun t x I hh => by cases hh⟩
  · by_cases hiq : i = q
    · subst hiq
      rw [List.getElem?_set_self hil] at hq
      cases hq
      have hR := h.reg i _ hi
      exact ⟨fun j v hv => by
        obtain ⟨a, h1, h2, _⟩ := hR.cell j v hv
        exact ⟨a, h1, h2, fun hh => by cases hh⟩, fun es k hm => by cases hm⟩
    · rw [List.getElem?_set_ne hiq] at hq
      exact h.reg q r hq
  · obtain ⟨rq', h1, h2, h3⟩ := get q rq hq
    obtain ⟨rj', h4, _, h5⟩ := get j rj hj
    exact h.sep q j rq' rj' a b hqj h1 h4 (h2 hrw) (by rw [h3]; exact hsq) (by rw [h5]; exact hsj) ha hb
  · obtain ⟨rq', h1, h2, h3⟩ := get q r hq
    exact h.wr q rq' a h1 (h2 hrw) (by rw [h3]; exact hsq) ha
theorem Mem.ok_cold (hok : Mem.ok m = true) {i : Nat} {n : Nat} {cols : List Col} : Mem.ok (m.set i (some ⟨false, .tab n cols⟩)) = true := by
  simp only [Mem.ok, List.all_eq_true, List.length_set] at hok ⊢
  intro r hr
  rcases List.mem_or_eq_of_mem_set hr with h1 | h1
  · exact hok r h1
  · subst h1; rfl
/-- the slice of cell c gets a region of its own: what it had is from now on to be read alone; no slice: one of no rows -/
def gOwn (m : Mem) (o c st : Nat) (cols : List Col) : Option Mem :=
  match m[o]? with
  | some (some ⟨true, .flat l⟩) => (match l[c]? with
    | some (.v (.slice none 0 0)) => gNil m o c st cols
    | some (.slc i s r len cap) => (match m[i]? with
      | some (some ⟨_, .tab n cs⟩) => some ((m.set i (some ⟨false, .tab n cs⟩)).set o (some ⟨true, .flat (l.set c (.slc m.length s r len cap))⟩) ++ [some ⟨false, .tab n cs⟩])
      | _ => none)
    | _ => none)
  | _ => none
theorem gOwn_ok (h : Rel e w0 W m w) (hok : Mem.ok m = true) {o c st : Nat} {cols : List Col} {m' : Mem} (hg : gOwn m o c st cols = some m') : ∃ e', (∀ i, i < m.length → e' i = e i) ∧ Rel e' w0 W m' w ∧ m'.length = m.length + 1 := by
  unfold gOwn at hg
  split at hg
  · rename_i l ho
    split at hg
    · exact gNil_ok h hok hg
    · rename_i i s r len cap hc
      split at hg
      · rename_i b n cs hi
        cases hg
        have hil : i < m.length := (List.getElem?_eq_some_iff.1 hi).1
        have hol : o < m.length := (List.getElem?_eq_some_iff.1 ho).1
        have hio : i ≠ o := by intro hh; rw [hh, ho] at hi; cases hi
        have h1 := h.cold hi
        have hlen : (m.set i (some ⟨false, .tab n cs⟩)).length = m.length := by simp
        have hi1 : (m.set i (some (⟨false, .tab n cs⟩ : Reg)))[i]? = some (some ⟨false, .tab n cs⟩) := List.getElem?_set_self hil
        let e2 : Env := fun q => if q < m.length then e q else e i
        have hag : ∀ q, q < (m.set i (some (⟨false, .tab n cs⟩ : Reg))).length → e2 q = e q := fun q hq => if_pos (by rw [hlen] at hq; exact hq)
        refine ⟨e2, fun q hq => if_pos hq, ?_, by simp⟩
        have h3 : Rel e2 w0 W (m.set i (some ⟨false, .tab n cs⟩) ++ [some ⟨false, .tab n cs⟩]) w := by
          refine h1.pushR (A := e i) hag (Mem.ok_cold hok) (by rw [hlen]; exact if_neg (Nat.lt_irrefl _)) ?_ (fun hs q rq a b hq hrw hsq ha hb => ?_) ?_
          · have hR := h1.reg i _ hi1
            exact ⟨fun j v hv => hR.cell j v hv, fun es k hm => by cases hm⟩
          · by_cases hqi : q = i
            · subst hqi
              rw [hi1] at hq; cases hq; cases hrw
            · exact (h1.sep q i rq _ b a hqi hq hi1 hrw hsq hs hb ha).symm
          · obtain ⟨F, hF⟩ := h1.obj
            exact ⟨F, hF, fun hj hs ha => hF.off hj hi1 hs ha⟩
        have hden : SA.den e2 (.slc m.length s r len cap) = SA.den e2 (.slc i s r len cap) := by
          have h5 : e2 m.length = e i := if_neg (Nat.lt_irrefl _)
          have h6 : e2 i = e i := if_pos hil
          simp only [SA.den, at_, h5, h6]
        have h2 := h3.recon (i := o) (c' := .flat (l.set c (.slc m.length s r len cap))) (by rw [List.getElem?_append_left (by rw [hlen]; exact hol), List.getElem?_set_ne hio]; exact ho) (flat_set_cell hc hden) (fun hs hl => hs (by rw [hl]; rfl)) (fun es k hm => by cases hm) (fun t x I hm => by cases hm)
        rw [set_push (by rw [hlen]; exact hol)] at h2
        exact h2
      · cases hg
    · cases hg
  · cases hg

/-- cell c of region o holds a slice of which region i tells: it becomes a region, of rows of st cells -/
def gOpen (m : Mem) (i o c st : Nat) (Q : Value → Prop) (cs : Value → List Col) : Option (List Prop × Mem) := match m[i]?, m[o]? with
  | some (some ⟨false, .obj _ _ I⟩), some (some ⟨true, .flat l⟩) => (match l[c]? with
    | some (.v x) => some ([I = openI Q cs, Q x], m.set o (some ⟨true, .flat (l.set c (.slc m.length st 0 (slN x) (slK x)))⟩) ++ [some ⟨false, .tab (slN x) (cs x)⟩])
    | _ => none)
  | _, _ => none
theorem gOpen_ok (h : Rel e w0 W m w) (hok : Mem.ok m = true) {i o c st : Nat} {Q : Value → Prop} {cs : Value → List Col} {l : List Prop} {m' : Mem} (hg : gOpen m i o c st Q cs = some (l, m')) (hl : Holds l) :
    ∃ e', (∀ i, i < m.length → e' i = e i) ∧ Rel e' w0 W m' w ∧ m'.length = m.length + 1 := by
  unfold gOpen at hg
  split at hg
  · rename_i t p I ls hi ho
    split at hg
    · rename_i x hc
      cases hg
      have hI : I = openI Q cs := hl _ List.mem_cons_self
      have hQ : Q x := hl _ (List.mem_cons_of_mem _ List.mem_cons_self)
      subst hI
      have hol : o < m.length := (List.getElem?_eq_some_iff.1 ho).1
      obtain ⟨G, ⟨_, hlt, hall⟩, hGW⟩ := h.ro _ _ _ _ hi
      obtain ⟨A, n, k, rfl, hr, hGA⟩ := hall x hQ
      have hag : ∀ i, i < m.length → (fun i => if i < m.length then e i else A) i = e i := fun i hi => if_pos hi
      have hin : ∀ a, A = some a → (Con.tab n (cs (.slice A n k))).some_ → a.block < w0.heap.size ∧ ¬ W a.block := fun a ha hs => ⟨hlt _ (hGA a ha hs), hGW _ (hGA a ha hs)⟩
      have h1 : Rel (fun i => if i < m.length then e i else A) w0 W (m ++ [some ⟨false, .tab n (cs (.slice A n k))⟩]) w := by
        refine h.pushR (A := A) hag hok (if_neg (Nat.lt_irrefl _)) ((hr _).keep fun a ha hs => ?_) (fun hs j rj a b hj hrw hsj ha hb hab => ?_) ?_
        · obtain ⟨h2, h3⟩ := hin a ha hs
          exact h.fr.block _ h2 h3
        · obtain ⟨h2, h3⟩ := hin a ha hs
          rcases h.wr j rj b hj hrw hsj hb with h4 | h4
          · rw [← hab] at h4; exact h3 h4
          · omega
        · obtain ⟨F, hF⟩ := h.obj
          refine ⟨F, hF, fun hj hs ha hb => ?_⟩
          obtain ⟨h2, h3⟩ := hin _ ha hs
          rcases hF.wr hj hb with h4 | h4
          · exact h3 h4
          · omega
      refine ⟨_, hag, ?_, by simp⟩
      have h3 : SA.den (fun i => if i < m.length then e i else A) (.slc m.length st 0 (slN (.slice A n k)) (slK (.slice A n k))) = SA.den (fun i => if i < m.length then e i else A) (.v (.slice A n k)) := by
        simp only [SA.den, at_, slN, slK, if_neg (Nat.lt_irrefl _), Nat.zero_mul]
        cases A <;> simp [Addr.add_zero']
      have h2 := h1.recon (i := o) (c' := .flat (ls.set c (.slc m.length st 0 (slN (.slice A n k)) (slK (.slice A n k))))) (by rw [List.getElem?_append_left hol]; exact ho) (flat_set_cell hc h3) (fun hs hl => hs (by rw [hl]; rfl)) (fun es k hm => by cases hm) (fun t x I hm => by cases hm)
      rw [set_push hol] at h2
      exact h2
    · cases hg
  · cases hg

/-- One such step. -/
inductive GC where
  | rows (o st n : Nat)
  | own (o c st : Nat) (cols : List Col)
  | opn (i o c st : Nat) (Q : Value → Prop) (cs : Value → List Col)
  | nil (o c st : Nat) (cols : List Col)
  | base (o c : Nat)
  | box (ρ : List Nat) (t : Nat) (x : Pay) (K : ObK) (hd : K.Hid)

def gstep (v : SV) (m : Mem) : GC → Option (List Prop × SV × Mem)
  | .rows o st n => (match gRows m o st n with | some m' => some ([], v, m') | none => none)
  | .own o c st cols => (match gOwn m o c st cols with | some m' => some ([], v, m') | none => none)
  | .opn i o c st Q cs => (match gOpen m i o c st Q cs with | some (l, m') => some (l, v, m') | none => none)
  | .nil o c st cols => (match gNil m o c st cols with | some m' => some ([], v, m') | none => none)
  | .base o c => (match gBase m o c with | some m' => some ([], v, m') | none => none)
  | .box ρ t x K hd => (match gBox m ρ t x K hd with | some (l, m') => some (l, v.ren ((List.range m.length).set (rn ρ 0) m.length), m') | none => none)
def ghost : List GC → SV → Mem → Option (List Prop × SV × Mem)
  | [], v, m => some ([], v, m)
  | g :: gs, v, m => (match Mem.ok m, v.ok m.length, gstep v m g with
    | true, true, some (l, v', m') => (match ghost gs v' m' with | some (l2, v2, m2) => some (l ++ l2, v2, m2) | none => none)
    | _, _, _ => none)

theorem gstep_ok (h : Rel e w0 W m w) (hok : Mem.ok m = true) {v : SV} (hv : v.ok m.length = true) {g : GC} {l : List Prop} {v' : SV} {m' : Mem} (hg : gstep v m g = some (l, v', m')) (hl : Holds l) :
    ∃ e', (∀ i, i < m.length → e' i = e i) ∧ Rel e' w0 W m' w ∧ m.length ≤ m'.length ∧ v'.den e' = v.den e := by
  cases g with
  | rows o st n =>
    simp only [gstep] at hg
    split at hg
    · rename_i m1 h1
      cases hg
      obtain ⟨h3, h4⟩ := gRows_ok h h1
      exact ⟨e, fun _ _ => rfl, h3, by omega, rfl⟩
    · cases hg
  | own o c st cols =>
    simp only [gstep] at hg
    split at hg
    · rename_i m1 h1
      cases hg
      obtain ⟨e', h2, h3, h4⟩ := gOwn_ok h hok h1
      exact ⟨e', h2, h3, by omega, SV.congr h2 hv⟩
    · cases hg
  | opn i o c st Q cs =>
    simp only [gstep] at hg
    split at hg
    · rename_i l1 m1 h1
      cases hg
      obtain ⟨e', h2, h3, h4⟩ := gOpen_ok h hok h1 hl
      exact ⟨e', h2, h3, by omega, SV.congr h2 hv⟩
    · cases hg
  | nil o c st cols =>
    simp only [gstep] at hg
    split at hg
    · rename_i m1 h1
      cases hg
      obtain ⟨e', h2, h3, h4⟩ := gNil_ok h hok h1
      exact ⟨e', h2, h3, by omega, SV.congr h2 hv⟩
    · cases hg
  | base o c =>
    simp only [gstep] at hg
    split at hg
    · rename_i m1 h1
      cases hg
      obtain ⟨e', h2, h3, h4⟩ := gBase_ok h hok h1
      exact ⟨e', h2, h3, by omega, SV.congr h2 hv⟩
    · cases hg
  | box ρ t x K hd =>
    simp only [gstep] at hg
    split at hg
    · rename_i l1 m1 h1
      cases hg
      obtain ⟨e', h2, h3, h4, h5, h6⟩ := gBox_ok h hok h1 hl
      refine ⟨e', h2, h3, by omega, ?_⟩
      rw [SV.den_ren]
      refine SV.congr (fun i hi => ?_) hv
      simp only [renE, rn, List.getD_eq_getElem?_getD]
      by_cases hir : ρ.getD 0 0 = i
      · rw [show (ρ[0]?.getD 0) = i by rw [← List.getD_eq_getElem?_getD]; exact hir]
        rw [List.getElem?_set_self (by simpa using hi)]
        simp only [Option.getD_some]
        rw [h5]
        exact congrArg e hir
      · rw [show (ρ[0]?.getD 0) = ρ.getD 0 0 by rw [← List.getD_eq_getElem?_getD]]
        rw [List.getElem?_set_ne hir, List.getElem?_range hi]
        exact h2 i hi
    · cases hg

theorem ghost_ok : ∀ {gs : List GC} {v : SV} {m : Mem} {e : Env} {l : List Prop} {v' : SV} {m' : Mem}, Rel e w0 W m w → ghost gs v m = some (l, v', m') → Holds l →
    ∃ e', (∀ i, i < m.length → e' i = e i) ∧ Rel e' w0 W m' w ∧ m.length ≤ m'.length ∧ v'.den e' = v.den e
  | [], v, m, e, l, v', m', h, hg, _ => by
    cases hg
    exact ⟨e, fun _ _ => rfl, h, Nat.le_refl _, rfl⟩
  | g :: gs, v, m, e, l, v', m', h, hg, hl => by
    simp only [ghost] at hg
    split at hg
    · rename_i l1 v1 m1 hok hv hst
      split at hg
      · rename_i l2 v2 m2 hg2
        cases hg
        obtain ⟨hl1, hl2⟩ := holds_app hl
        obtain ⟨e1, h1, h2, h3, h4⟩ := gstep_ok h hok hv hst hl1
        obtain ⟨e2, h5, h6, h7, h8⟩ := ghost_ok h2 hg2 hl2
        exact ⟨e2, fun i hi => by rw [h5 i (by omega), h1 i hi], h6, by omega, h8.trans h4⟩
      · cases hg
    · cases hg

end
end Go.Sx

/-
  Part 10: contracts of functions, operations in a row, code; that all this is sound.
-/
namespace Go.Sx
open Go.RowKit

/-- One way in which a call may end. -/
inductive Alt where
  | one (v : SV) (m : Mem)
  | cond (p : Prop) (v : SV) (m : Mem)
  | fam (α : Type) (p : α → Prop) (v : α → SV) (m : α → Mem)

/-- the world behind it -/
def After (e : Env) (n : Nat) (w0 : World) (W : Nat → Prop) (v : SV) (m : Mem) (r : Ending) (w : World) : Prop :=
  ∃ e' : Env, (∀ i, i < n → e' i = e i) ∧ r = .returned (v.den e') ∧ Rel e' w0 W m w

def Alt.Says (e : Env) (n : Nat) (w0 : World) (W : Nat → Prop) (r : Ending) (w : World) : Alt → Prop
  | .one v m => After e n w0 W v m r w
  | .cond p v m => p ∧ After e n w0 W v m r w
  | .fam _ p v m => ∃ y, p y ∧ After e n w0 W (v y) (m y) r w

def altK (K : SV → Mem → Prop) : Alt → Prop
  | .one v m => K v m
  | .cond p v m => p → K v m
  | .fam _ p v m => ∀ y, p y → K (v y) (m y)

/-- behind the first -/
noncomputable def altsT (K : SV → Mem → Prop) (l : List Alt) : Prop → Prop := List.rec (motive := fun _ => Prop → Prop) (fun X => X) (fun a _ ih X => X ∧ ih (altK K a)) l
noncomputable def altsK (K : SV → Mem → Prop) (l : List Alt) : Prop := match l with | [] => True | a :: l => altsT K l (altK K a)
theorem altsT_iff {K : SV → Mem → Prop} : ∀ {l : List Alt} {X : Prop}, altsT K l X → X ∧ ∀ a ∈ l, altK K a
  | [], X, h => ⟨h, fun a ha => absurd ha (by simp)⟩
  | b :: l, X, h => by
    obtain ⟨h1, h2⟩ := (show X ∧ altsT K l (altK K b) from h)
    obtain ⟨h3, h4⟩ := altsT_iff h2
    refine ⟨h1, fun a ha => ?_⟩
    rcases List.mem_cons.1 ha with rfl | ha
    · exact h3
    · exact h4 a ha

theorem altsK_mem {K : SV → Mem → Prop} : ∀ {l : List Alt}, altsK K l → ∀ a ∈ l, altK K a
  | [], _, a, ha => absurd ha (by simp)
  | b :: l, h, a, ha => by
    obtain ⟨h1, h2⟩ := altsT_iff (show altsT K l (altK K b) from h)
    rcases List.mem_cons.1 ha with rfl | ha
    · exact h1
    · exact h2 a ha

def Slots.ok (n : Nat) : Slots → Bool
  | [] => true
  | (_, v) :: l => v.ok n && Slots.ok n l
def St.ok (S : St) : Bool := S.t.ok S.m.length && Mem.ok S.m

/-- A function that leaves the known memory as it is. -/
structure PSpec (P : Program) where
  f : FuncId
  X : Type
  inp : List SV → Mem → Option X
  pre : X → Option Prop
  res : X → SV
  sound : ∀ (args : List SV) (m : Mem) (x : X), inp args m = some x → obp (pre x) → ∀ (e : Env) (w0 : World) (W : Nat → Prop) (w : World), Rel e w0 W m w →
    ((callFunc f (args.map (SV.den e)).toArray).run P w = .ok (.enter f (args.map (SV.den e)).toArray) w ∧ Calls P f (args.map (SV.den e)).toArray w fun r w' => r = .returned ((res x).den e) ∧ Rel e w0 W m w') ∨
    (callFunc f (args.map (SV.den e)).toArray).run P w = .ok (.value ((res x).den e)) w

/-- A function that writes or makes memory. -/
structure ESpec (P : Program) where
  f : FuncId
  X : Type
  inp : List SV → Mem → Option X
  pre : X → Option Prop
  res : X → List Alt
  ent : ∀ (args : Array Value) (w : World), (callFunc f args).run P w = .ok (.enter f args) w
  sound : ∀ (args : List SV) (m : Mem) (x : X), inp args m = some x → obp (pre x) → Mem.ok m = true → ∀ (e : Env) (w0 : World) (W : Nat → Prop) (w : World), Rel e w0 W m w →
    Calls P f (args.map (SV.den e)).toArray w fun r w' => ∃ a ∈ res x, a.Says e m.length w0 W r w'

/-- A function that is carried out where it is called. -/
structure ISpec (P : Program) where
  f : FuncId
  run : List SV → Mem → (SV → Mem → Prop) → Prop
  ent : ∀ (args : Array Value) (w : World), (callFunc f args).run P w = .ok (.enter f args) w
  sound : ∀ (args : List SV) (m : Mem) (K : SV → Mem → Prop), run args m K → ∀ (e : Env) (w0 : World) (W : Nat → Prop) (w : World), Rel e w0 W m w →
    Calls P f (args.map (SV.den e)).toArray w fun r w' => ∃ v m', K v m' ∧ After e m.length w0 W v m' r w'

/-- An operation that this library does not know, known to a body. -/
structure XRead (P : Program) where
  rd : St → Oper → R
  sound : ∀ {e : Env} {w0 : World} {W : Nat → Prop} {S : St} {w : World} {a : Act} {o : Oper}, Rel e w0 W S.m w → RelT e S a → Good P e w0 W S a w o (rd S o)

/-- An operation that may end in several ways. -/
structure XAct (P : Program) where
  act : St → Oper → Option (Option Prop × List Alt)
  sound : ∀ (S : St) (o : Oper) (ob : Option Prop) (l : List Alt), act S o = some (ob, l) → obp ob → St.ok S = true → ∀ (e : Env) (w0 : World) (W : Nat → Prop) (w : World) (a : Act), Rel e w0 W S.m w → RelT e S a →
    ∃ v w', ((execOp a.eval o).run P w = .ok (.value v) w' ∨ (v = undef ∧ (execOp a.eval o).run P w = .ok .skip w')) ∧ ∃ al ∈ l, al.Says e S.m.length w0 W (.returned v) w'

structure LA where
  ι : Type
  inv : ι → Prop
  T : ι → St
  μ : ι → Nat
  ren : St → List Nat
  /-- what is said otherwise of the memory, ahead of all else -/
  gs : St → List GC := fun _ => []
  /-- ahead of that: slots in which no slice stands get one of no rows -/
  nl : List (Nat × Nat × List Col) := []

inductive LoopBy where
  | inv (la : LA)
  | rounds (n : Nat)
  /-- by what stands in a slot when the loop begins -/
  | here (k : Nat) (f : Int → LA)

/-- the whole number of a slot -/
def St.intAt (S : St) (k : Nat) : Option Int := match S.ev (.tmp k) with
  | some (.one (.a (.v (.int _ n)))) => some n
  | _ => none

/-- In which order a region's operations are taken. take: it only reads what was there at the beginning; one, two, three: these may come next, and no others. -/
inductive Sched where
  | done
  | take (i : Nat) (s : Sched)
  | one (i : Nat) (s : Sched)
  | two (i : Nat) (s : Sched) (j : Nat) (t : Sched)
  | three (i : Nat) (s : Sched) (j : Nat) (t : Sched) (k : Nat) (u : Sched)

structure Cx (P : Program) where
  ps : List (PSpec P)
  es : List (ESpec P)
  is : List (ISpec P)
  n0 : Nat
  loops : Nat → Option LoopBy
  cuts : Nat → Option LA
  loud : Nat → Bool := fun _ => false
  held : Nat → Option (Bool × Sched) := fun _ => none
  /-- what a region that draws its order need not keep -/
  lose : Nat → List Nat := fun _ => []
  /-- operations known to the body -/
  xr : List (XRead P) := []
  xa : List (XAct P) := []
  /-- joining points that know what stands in two slots ahead of what they join -/
  cutsAt : Nat → Option (Nat × Nat × (Int → Int → LA)) := fun _ => none

/-- all but some -/
noncomputable def forget (l : List Nat) (m : Mem) : Mem := List.rec (motive := fun _ => Mem) m (fun i _ ih => ih.set i none) l

/-- an object of which nothing is known, but that it is there -/
def anyI : ObjI where
  ok := fun _ _ A F => (∃ a, A = some a) ∧ ∀ b, ¬ F b
  some_ := fun h => h.1
  lt := fun h b hb => absurd hb (h.2 b)
  frame := fun h _ _ => h
/-- that those forgotten are there -/
noncomputable def mark (l : List Nat) (m m0 : Mem) : Mem := List.rec (motive := fun _ => Mem) m0 (fun i _ ih => match leads m (.ptr i 0) with | true => ih.set i (some ⟨true, .obj 0 {} anyI⟩) | false => ih) l

inductive Md where
  | norm | still | quiet


def br (c : SA) (X Y : Prop) : Prop :=
  match c with
  | .tt => X
  | .ff => Y
  | .pr p _ => (p → X) ∧ (¬ p → Y)
  | .v (.bool b) => (b = true → X) ∧ (b = false → Y)
  | _ => False

def allAlts (K : SV → Prop) : List (Prop × SV) → Prop
  | [] => True
  | (p, v) :: l => (p → K v) ∧ allAlts K l

section
variable {P : Program}

def findP : List (PSpec P) → FuncId → List SV → Mem → Option (Option Prop × SV)
  | [], _, _, _ => none
  | s :: l, f, args, m => (match Nat.beq s.f f with
    | true => (match s.inp args m with | some x => some (s.pre x, s.res x) | none => findP l f args m)
    | false => findP l f args m)

def findE : List (ESpec P) → FuncId → List SV → Mem → Option (Option Prop × List Alt)
  | [], _, _, _ => none
  | s :: l, f, args, m => (match Nat.beq s.f f with
    | true => (match s.inp args m with | some x => some (s.pre x, s.res x) | none => findE l f args m)
    | false => findE l f args m)

def findX : List (XRead P) → St → Oper → R
  | [], _, _ => .bad
  | s :: l, S, o => (match s.rd S o with | .bad => findX l S o | r => r)
def findA : List (XAct P) → St → Oper → Option (Option Prop × List Alt)
  | [], _, _ => none
  | s :: l, S, o => (match s.act S o with | none => findA l S o | some r => some r)
/-- what an operation comes to, for this body -/
def rdX (cx : Cx P) (S : St) (o : Oper) : R := match rdOp P S o with | .bad => findX cx.xr S o | r => r

def findI : List (ISpec P) → FuncId → Option (ISpec P)
  | [], _ => none
  | s :: l, f => (match Nat.beq s.f f with | true => some s | false => findI l f)

/-! What is known is brought to its plain form before it is used on: that changes nothing. -/

def fNat : Nat → (Nat → Prop) → Prop
  | 0, K => K 0
  | n + 1, K => fNat n fun m => K (m + 1)
def fCaps : List (Nat × Nat) → (List (Nat × Nat) → Prop) → Prop
  | [], K => K []
  | (i, o) :: l, K => fNat i fun i => fNat o fun o => fCaps l fun l => K ((i, o) :: l)
def fSA : SA → (SA → Prop) → Prop
  | .v (.int k n), K => K (.v (.int k n))
  | .v x, K => K (.v x)
  | .pr p d, K => K (.pr p d)
  | .tt, K => K .tt
  | .ff, K => K .ff
  | .ptr i o, K => fNat i fun i => fNat o fun o => K (.ptr i o)
  | .rp i st r c, K => fNat i fun i => fNat st fun st => fNat c fun c => K (.rp i st r c)
  | .slc i st r len cap, K => fNat i fun i => fNat st fun st => K (.slc i st r len cap)
  | .map i, K => fNat i fun i => K (.map i)
  | .clo f caps, K => fCaps caps fun caps => K (.clo f caps)
  | .gcl f a b i st r len cap, K => fNat i fun i => fNat st fun st => K (.gcl f a b i st r len cap)
def fSAs : List SA → (List SA → Prop) → Prop
  | [], K => K []
  | x :: l, K => fSA x fun x => fSAs l fun l => K (x :: l)
def fSV1 : SV1 → (SV1 → Prop) → Prop
  | .a x, K => fSA x fun x => K (.a x)
  | .agg l, K => fSAs l fun l => K (.agg l)
def fSV1s : List SV1 → (List SV1 → Prop) → Prop
  | [], K => K []
  | x :: l, K => fSV1 x fun x => fSV1s l fun l => K (x :: l)
def fSV : SV → (SV → Prop) → Prop
  | .one x, K => fSV1 x fun x => K (.one x)
  | .tup l, K => fSV1s l fun l => K (.tup l)
def fCols : List Col → (List Col → Prop) → Prop
  | [], K => K []
  | .int k g :: l, K => fCols l fun l => K (.int k g :: l)
  | .bool g :: l, K => fCols l fun l => K (.bool g :: l)
  | .val g :: l, K => fCols l fun l => K (.val g :: l)
def fCon : Con → (Con → Prop) → Prop
  | .flat l, K => fSAs l fun l => K (.flat l)
  | .tab n cols, K => fCols cols fun cols => K (.tab n cols)
  | .room n l, K => fSAs l fun l => K (.room n l)
  | .obj t x I, K => K (.obj t x I)
def fMem : Mem → (Mem → Prop) → Prop
  | [], K => K []
  | none :: l, K => fMem l fun l => K (none :: l)
  | some ⟨true, c⟩ :: l, K => fCon c fun c => fMem l fun l => K (some ⟨true, c⟩ :: l)
  | some ⟨false, c⟩ :: l, K => fCon c fun c => fMem l fun l => K (some ⟨false, c⟩ :: l)
def fSlots : Slots → (Slots → Prop) → Prop
  | [], K => K []
  | (i, v) :: l, K => fSV v fun v => fSlots l fun l => K ((i, v) :: l)
def fSt (S : St) (K : St → Prop) : Prop := fSlots S.t fun t => fMem S.m fun m => K ⟨S.n, t, m⟩

theorem fNat_eq : ∀ (n : Nat) (K : Nat → Prop), fNat n K = K n
  | 0, _ => rfl
  | n + 1, K => fNat_eq n _
theorem fCaps_eq : ∀ (l : List (Nat × Nat)) (K : List (Nat × Nat) → Prop), fCaps l K = K l
  | [], _ => rfl
  | (i, o) :: l, K => by simp only [fCaps, fNat_eq, fCaps_eq l]
theorem fSA_eq (x : SA) (K : SA → Prop) : fSA x K = K x := by
  cases x with
  | v x => cases x <;> rfl
  | _ => simp only [fSA, fNat_eq, fCaps_eq]
theorem fSAs_eq : ∀ (l : List SA) (K : List SA → Prop), fSAs l K = K l
  | [], _ => rfl
  | x :: l, K => by simp only [fSAs, fSA_eq, fSAs_eq l]
theorem fSV1_eq (x : SV1) (K : SV1 → Prop) : fSV1 x K = K x := by
  cases x <;> simp only [fSV1, fSA_eq, fSAs_eq]
theorem fSV1s_eq : ∀ (l : List SV1) (K : List SV1 → Prop), fSV1s l K = K l
  | [], _ => rfl
  | x :: l, K => by simp only [fSV1s, fSV1_eq, fSV1s_eq l]
theorem fSV_eq (x : SV) (K : SV → Prop) : fSV x K = K x := by
  cases x <;> simp only [fSV, fSV1_eq, fSV1s_eq]
theorem fCols_eq : ∀ (l : List Col) (K : List Col → Prop), fCols l K = K l
  | [], _ => rfl
  | x :: l, K => by cases x <;> simp only [fCols, fCols_eq l]
theorem fCon_eq (x : Con) (K : Con → Prop) : fCon x K = K x := by
  cases x <;> simp only [fCon, fSAs_eq, fCols_eq]
theorem fMem_eq : ∀ (l : Mem) (K : Mem → Prop), fMem l K = K l
  | [], _ => rfl
  | none :: l, K => by simp only [fMem, fMem_eq l]
  | some ⟨true, c⟩ :: l, K => by simp only [fMem, fCon_eq, fMem_eq l]
  | some ⟨false, c⟩ :: l, K => by simp only [fMem, fCon_eq, fMem_eq l]
theorem fSlots_eq : ∀ (l : Slots) (K : Slots → Prop), fSlots l K = K l
  | [], _ => rfl
  | (i, v) :: l, K => by simp only [fSlots, fSV_eq, fSlots_eq l]
theorem fSt_eq (S : St) (K : St → Prop) : fSt S K = K S := by
  simp only [fSt, fSlots_eq, fMem_eq]

def evArgs (S : St) : List Operand → Option (List SV)
  | [] => some []
  | x :: l => (match S.ev x, evArgs S l with | some v, some r => some (v :: r) | _, _ => none)

def St.withMem (S : St) (m : Mem) : St := { S with m := m }

def runCall (md : Md) (cx : Cx P) (dst : Option Tmp) (f : FuncId) (args : List SV) (S : St) (K : St → Prop) : Prop :=
  match findP cx.ps f args S.m, md with
  | some (ob, v), .norm | some (ob, v), .quiet => obs ob (K (S.put dst v))
  | none, .norm => (match findE cx.es f args S.m, S.ok with
    | some (ob, l), true => obs ob (altsK (fun v m => fSV v fun v => fMem m fun m => match Nat.ble cx.n0 m.length with | true => K ((S.withMem m).put dst v) | false => False) l)
    | none, true => (match findI cx.is f with
      | some s => s.run args S.m fun v m => fSV v fun v => fMem m fun m => match Nat.ble cx.n0 m.length with | true => K ((S.withMem m).put dst v) | false => False
      | none => False)
    | _, _ => False)
  | _, _ => False

/-- what a function value is called with -/
def cloArgs (v : Option SV) (l : Option (List SV)) : Option (FuncId × List SV) := match v, l with
  | some (.one (.a (.clo g caps))), some l => some (g, l ++ caps.map fun c => .one (.a (.ptr c.1 c.2)))
  | some (.one (.a (.gcl g a b i st r len cap))), some l => some (g, .one (.agg [.v (.int .i64 a), .v (.int .i64 b), .slc i st r len cap]) :: l)
  | _, _ => none
def runOp (md : Md) (cx : Cx P) (o : Oper) (S : St) (K : St → Prop) : Prop :=
  match S.can o.dst with
  | false => False
  | true => (match o.op with
    | .pick c x y => (match S.ev c, S.ev x, S.ev y with
      | some (.one (.a c)), some xv, some yv => br c (K (S.put o.dst xv)) (K (S.put o.dst yv))
      | _, _, _ => False)
    | .call { callee := .value f, args, .. } => (match cloArgs (S.ev f) (evArgs S args.toList) with
      | some (g, l) => runCall md cx o.dst g l S K
      | none => False)
    | _ => (match rdX cx S o, md with
      | .val ob v, _ => obs ob (K (S.put o.dst v))
      | .pl ob x n f, _ => andO ob (0 ≤ x ∧ x < n) ∧ allAlts (fun v => K (S.put o.dst v)) (places x n f)
      | .new ob r f, .norm => (match S.ok && r.con.okN S.m.length with | true => obs ob (K ((S.withMem (S.m ++ [some r])).put o.dst (f S.m.length))) | false => False)
      | .app ob gone st len reg, .norm => (match S.ok with
        | true => ob ∧ ∀ (cap : Nat) (tl : Tail), len ≤ cap → cap ≤ 9223372036854775807 → K ((S.withMem (goneR gone S.m ++ [some (reg cap tl)])).put o.dst (.one (.a (.slc S.m.length st 0 len cap))))
        | false => False)
      | .wr ob i r, .norm => obs ob (K ((S.withMem (S.m.set i (some r))).put o.dst (.tup [])))
      | .wrv ob i r v, .norm => obs ob (K ((S.withMem (S.m.set i (some r))).put o.dst v))
      | .bad, .norm => (match findA cx.xa S o, S.ok with
        | some (ob, l), true => obs ob (altsK (fun v m => fSV v fun v => fMem m fun m => match Nat.ble cx.n0 m.length with | true => K ((S.withMem m).put o.dst v) | false => False) l)
        | _, _ => False)
      | _, _ => False))

def sel (want : Bool) (X Y : Prop) : Prop :=
  match want with
  | true => X
  | false => Y

/-- (The recursor's cases have names of their own: what is left stays short.) -/
def runOpsN (S : St) (K : St → Prop) : Prop := K S
def runOpsC (md : Md) (cx : Cx P) (all : Array Oper) (o : Oper) (_ : List Oper) (ih : St → (St → Prop) → Prop) (S : St) (K : St → Prop) : Prop := (match o.guard with
    | none => runOp md cx o S fun S' => ih S' K
    | some (j, want) => (match (all[j]?).bind (·.dst) with
      | none => False
      | some d => (match S.t.get d, S.can o.dst with
        | some (.one (.a c)), true => br c
            (sel want (runOp md cx o (S.put (some d) (.one (.a .tt))) fun S' => ih S' K) (ih ((S.put (some d) (.one (.a .tt))).put o.dst (.tup [])) K))
            (sel want (ih ((S.put (some d) (.one (.a .ff))).put o.dst (.tup [])) K) (runOp md cx o (S.put (some d) (.one (.a .ff))) fun S' => ih S' K))
        | some (.tup []), true => ih (S.put o.dst (.tup [])) K
        | _, _ => False)))
noncomputable def runOps (md : Md) (cx : Cx P) (all : Array Oper) (l : List Oper) : St → (St → Prop) → Prop :=
  List.rec (motive := fun _ => St → (St → Prop) → Prop) runOpsN (runOpsC md cx all) l
theorem runOps_cons {md : Md} {cx : Cx P} {all : Array Oper} {o : Oper} {rest : List Oper} {S : St} {K : St → Prop} : runOps md cx all (o :: rest) S K = (match o.guard with
    | none => runOp md cx o S fun S' => runOps md cx all rest S' K
    | some (j, want) => (match (all[j]?).bind (·.dst) with
      | none => False
      | some d => (match S.t.get d, S.can o.dst with
        | some (.one (.a c)), true => br c
            (sel want (runOp md cx o (S.put (some d) (.one (.a .tt))) fun S' => runOps md cx all rest S' K) (runOps md cx all rest ((S.put (some d) (.one (.a .tt))).put o.dst (.tup [])) K))
            (sel want (runOps md cx all rest ((S.put (some d) (.one (.a .ff))).put o.dst (.tup [])) K) (runOp md cx o (S.put (some d) (.one (.a .ff))) fun S' => runOps md cx all rest S' K))
        | some (.tup []), true => runOps md cx all rest (S.put o.dst (.tup [])) K
        | _, _ => False))) := rfl

def idB : Nat → Nat → List Nat → Bool
  | 0, _, _ => true
  | n + 1, j, x :: l => Nat.beq x j && idB n (j + 1) l
  | _ + 1, _, [] => false

def subSlots (ρ : List Nat) (t : Slots) : Slots → Option (List Prop)
  | [] => some []
  | (k, v) :: r => (match t.get k with
    | some u => app2 (eqSV (v.ren ρ) u) (subSlots ρ t r)
    | none => none)

/-- T claimed of the known S -/
def subSt (ρ : List Nat) (n0 : Nat) (S T : St) : Option (List Prop) :=
  match Nat.beq S.n T.n, idB n0 0 ρ, Nat.ble T.m.length ρ.length, nodupB ρ, Nat.ble n0 T.m.length with
  | true, true, true, true, true => app2 (subSlots ρ S.t T.t) (subMem ρ S.m 0 T.m)
  | _, _, _, _, _ => none

def ghS (gs : List GC) (S : St) : Option (List Prop × St) :=
  match gs with
  | [] => some ([], S)
  | g :: gs => (match S.ok, ghost (g :: gs) (.tup []) S.m with
    | true, some (l, _, m') => some (l, ⟨S.n, S.t, m'⟩)
    | _, _ => none)
/-- a slot in which no slice stands gets one of no rows -/
def nil1 (k st : Nat) (cols : List Col) (S : St) : St := match S.t.get k with
  | some (.one (.a (.v (.slice none 0 0)))) => (match St.ok S with
    | true => ⟨S.n, (k, .one (.a (.slc S.m.length st 0 0 0))) :: S.t, S.m ++ [some ⟨true, .tab 0 cols⟩]⟩
    | false => S)
  | _ => S
def nilS : List (Nat × Nat × List Col) → St → St
  | [], S => S
  | (k, st, cols) :: l, S => nilS l (nil1 k st cols S)
def ghC (g : GC) (_ : List GC) (ih : SV → Mem → Prop) (v : SV) (m : Mem) : Prop := match Mem.ok m, v.ok m.length, gstep v m g with
  | true, true, some (l, v', m') => allP l (fSV v' fun v' => fMem m' fun m' => ih v' m')
  | _, _, _ => False
/-- said otherwise, step by step (each step's outcome brought to plain form) -/
noncomputable def ghostF (gs : List GC) (K : SV → Mem → Prop) : SV → Mem → Prop := List.rec (motive := fun _ => SV → Mem → Prop) K ghC gs
theorem ghostF_ok {K : SV → Mem → Prop} : ∀ {gs : List GC} {v : SV} {m : Mem}, ghostF gs K v m → ∃ l v' m', ghost gs v m = some (l, v', m') ∧ Holds l ∧ K v' m'
  | [], v, m, h => ⟨[], v, m, rfl, (allP_iff (l := []) (K := K v m)).1 h |>.1, h⟩
  | g :: gs, v, m, h => by
    have h : ghC g gs (ghostF gs K) v m := h
    unfold ghC at h
    split at h
    · rename_i l v1 m1 hok hv hst
      rw [allP_iff, fSV_eq, fMem_eq] at h
      obtain ⟨l2, v2, m2, h1, h2, h3⟩ := ghostF_ok h.2
      refine ⟨l ++ l2, v2, m2, ?_, ?_, h3⟩
      · simp only [ghost, hok, hv, hst, h1]
      · rw [← and_true (Holds _), ← allP_iff]
        have : ∀ {l : List Prop}, Holds l → allP (l ++ l2) True := by
          intro l
          induction l with
          | nil => intro _; exact allP_iff.2 ⟨h2, trivial⟩
          | cons p l ih =>
            intro hp
            have hp := (allP_iff (K := True)).2 ⟨hp, trivial⟩
            rw [allP_cons] at hp
            exact ⟨hp.1, ih (allP_iff.1 hp.2).1⟩
        exact this h.1
    · exact h.elim
/-- what is said otherwise at a joining point -/
noncomputable def ghE (gs : List GC) (S : St) (K : St → Prop) : Prop :=
  match gs with
  | [] => K S
  | g :: gs => (match S.ok with
    | true => ghostF (g :: gs) (fun _ m => K ⟨S.n, S.t, m⟩) (.tup []) S.m
    | false => False)
def enterS (la : LA) (n0 : Nat) (C : la.ι → Prop) (i : la.ι) (S1 : St) : Prop :=
  match subSt (la.ren S1) n0 S1 (la.T i) with
  | some l => allP l True ∧ C i
  | none => False
def enter (la : LA) (n0 : Nat) (S : St) (C : la.ι → Prop) : Prop :=
  ∃ i, la.inv i ∧ fSt (nilS la.nl S) fun S0 => ghE (la.gs S0) S0 (enterS la n0 C i)

def firstRegion : Code → Option Nat
  | .region id _ _ => some id
  | .seq a b => (match firstRegion a with | some i => some i | none => firstRegion b)
  | .cond _ a b => (match firstRegion a with | some i => some i | none => firstRegion b)
  | .block _ c | .loop c | .scope c => firstRegion c
  | _ => none

def at? {α : Type 1} (f : Nat → Option α) (o : Option Nat) : Option α :=
  match o with
  | some i => f i
  | none => none

/-- does an operation write, or make memory? -/
def actsB : Op → Bool
  | .call { callee := .builtin .len, .. } | .call { callee := .builtin .min, .. } | .call { callee := .builtin .max, .. } => false
  | .store .. | .alloc _ | .box .. | .buildSlice .. | .makeSlice .. | .makeMap .. | .mapUpdate .. | .call _ => true
  | _ => false
def quietB (o : Oper) : Bool :=
  match o.op with
  | .call { callee := .value _, .. } | .call { callee := .builtin .len, .. } | .call { callee := .builtin .min, .. } | .call { callee := .builtin .max, .. } => true
  | op => !(actsB op)
def headLen : List Oper → Nat
  | [] => 0
  | o :: l => (match actsB o.op with | true => 0 | false => headLen l + 1)

def roundsN (_ : St) : Prop := False
def roundsC (R : (Exit → St → Prop) → St → Prop) (Q : Exit → St → Prop) (_ : Nat) (ih : St → Prop) (S : St) : Prop := R (fun ex S' => match ex with | .normal => ih S' | ex => Q ex S') S
noncomputable def rounds (R : (Exit → St → Prop) → St → Prop) (Q : Exit → St → Prop) (n : Nat) : St → Prop :=
  Nat.rec (motive := fun _ => St → Prop) roundsN (roundsC R Q) n

/-- a region that draws its order may be walked in the text's order: to be shown by computing -/
def Lex (ops : Array Oper) (k : Option Nat) : Prop := (match k with | none => Region.lexB .any ops | some k => Region.lexTailB .any ops k) = true

/-! A region that draws its order, its operations taken as the list says: true: it only reads what was there at the region's beginning; false: all others wait for it. -/
def stepG (all : Array Oper) (run : Oper → St → (St → Prop) → Prop) (o : Oper) (S : St) (K : St → Prop) : Prop :=
  match o.guard with
  | none => run o S K
  | some (j, want) => (match (all[j]?).bind (·.dst) with
    | none => False
    | some d => (match S.t.get d, S.can o.dst with
      | some (.one (.a c)), true => br c
          (sel want (run o (S.put (some d) (.one (.a .tt))) K) (K ((S.put (some d) (.one (.a .tt))).put o.dst (.tup []))))
          (sel want (K ((S.put (some d) (.one (.a .ff))).put o.dst (.tup []))) (run o (S.put (some d) (.one (.a .ff))) K))
      | some (.tup []), true => K (S.put o.dst (.tup []))
      | _, _ => False))

def runStill (m0 : Mem) (o : Oper) (S : St) (K : St → Prop) : Prop :=
  match S.can o.dst with
  | false => False
  | true => (match o.op with
    | .pick c x y => (match S.ev c, S.ev x, S.ev y with
      | some (.one (.a c)), some xv, some yv => br c (K (S.put o.dst xv)) (K (S.put o.dst yv))
      | _, _, _ => False)
    | .call { callee := .value _, .. } => False
    | _ => (match rdOp P (S.withMem m0) o with
      | .val ob v => obs ob (K (S.put o.dst v))
      | .pl ob x n f => andO ob (0 ≤ x ∧ x < n) ∧ allAlts (fun v => K (S.put o.dst v)) (places x n f)
      | _ => False))

/-- what was there is as it was -/
def keepsM (m0 m : Mem) : Prop := match subMem (List.range m0.length) m 0 m0 with | some l => allP l True | none => False

def actH (cx : Cx P) (all : Array Oper) (n1 : Nat) (m0 : Mem) (i : Nat) (R : St → Prop) (S : St) : Prop :=
  match all[i]? with
  | none => False
  | some o => stepG all (runOp .norm { cx with n0 := n1 }) o S fun S' => fSt S' fun S' => keepsM m0 S'.m ∧ R S'

def runHeldT (all : Array Oper) (m0 : Mem) (i : Nat) (_ : Sched) (ih : St → Prop) (S : St) : Prop := (match all[i]? with
      | none => False
      | some o => stepG all (runStill (P := P) m0) o S ih)
def runHeld1 (cx : Cx P) (all : Array Oper) (n1 : Nat) (m0 : Mem) (i : Nat) (_ : Sched) (ih : St → Prop) (S : St) : Prop := actH cx all n1 m0 i ih S
def runHeld2 (cx : Cx P) (all : Array Oper) (n1 : Nat) (m0 : Mem) (i : Nat) (_ : Sched) (j : Nat) (_ : Sched) (ih jh : St → Prop) (S : St) : Prop := actH cx all n1 m0 i ih S ∧ actH cx all n1 m0 j jh S
def runHeld3 (cx : Cx P) (all : Array Oper) (n1 : Nat) (m0 : Mem) (i : Nat) (_ : Sched) (j : Nat) (_ : Sched) (k : Nat) (_ : Sched) (ih jh kh : St → Prop) (S : St) : Prop := actH cx all n1 m0 i ih S ∧ actH cx all n1 m0 j jh S ∧ actH cx all n1 m0 k kh S
noncomputable def runHeld (cx : Cx P) (all : Array Oper) (n1 : Nat) (m0 m1 : Mem) (K : St → Prop) (s : Sched) : St → Prop :=
  Sched.rec (motive := fun _ => St → Prop) K (runHeldT (P := P) all m1) (runHeld1 cx all n1 m0) (runHeld2 cx all n1 m0) (runHeld3 cx all n1 m0) s
theorem runHeld_take {cx : Cx P} {all : Array Oper} {n1 : Nat} {m0 m1 : Mem} {K : St → Prop} {i : Nat} {s : Sched} {S : St} : runHeld cx all n1 m0 m1 K (.take i s) S = (match all[i]? with
    | none => False
    | some o => stepG all (runStill (P := P) m1) o S (runHeld cx all n1 m0 m1 K s)) := rfl

def heldB (ops : Array Oper) : Nat → Sched → Array Bool → Bool
  | _, .done, listed => (Region.ready .any ops listed).isEmpty
  | n + 1, .take i l, listed => (Region.ready .any ops listed).contains i && Region.free .any ops listed i && heldB ops n l (listed.setIfInBounds i true)
  | n + 1, .one i l, listed => decide (Region.ready .any ops listed = [i]) && heldB ops n l (listed.setIfInBounds i true)
  | n + 1, .two i l j r, listed => decide (Region.ready .any ops listed = [i, j]) && heldB ops n l (listed.setIfInBounds i true) && heldB ops n r (listed.setIfInBounds j true)
  | n + 1, .three i l j r k u, listed => decide (Region.ready .any ops listed = [i, j, k]) && heldB ops n l (listed.setIfInBounds i true) && heldB ops n r (listed.setIfInBounds j true) && heldB ops n u (listed.setIfInBounds k true)
  | 0, _, _ => false
/-- the order is one in which the operations may be taken: to be shown by computing -/
def HeldOK (ops : Array Oper) (l : Sched) : Prop := (Region.noSelect ops && heldB ops ops.size l (Array.replicate ops.size false)) = true

def execN (Q : Exit → St → Prop) (S : St) : Prop := Q .normal S
noncomputable def execReg (cx : Cx P) (id : Nat) (ops : Array Oper) (draw : Bool) (Q : Exit → St → Prop) (S : St) : Prop := fSt S fun S => (match draw with
    | false => runOps .norm cx ops ops.toList S (Q .normal)
    | true => (match cx.held id with
      | some (q, l) => HeldOK ops l ∧ (match Nat.ble cx.n0 S.m.length, Mem.ok S.m with
        | true, true => fMem (match q with | true => forget (cx.lose id) S.m | false => []) fun m0 => fMem (match q with | true => mark (cx.lose id) S.m (forget (cx.lose id) S.m) | false => []) fun m1 => runHeld cx ops S.m.length m0 m1 (Q .normal) l S
        | _, _ => False)
      | none => (match ops.toList.all quietB && !(cx.loud id) with
      | true => Lex ops none ∧ runOps .quiet cx ops ops.toList S (Q .normal)
      | false => Lex ops (some (headLen ops.toList)) ∧ runOps .still cx ops (ops.toList.take (headLen ops.toList)) S fun S' => runOps .norm cx ops (ops.toList.drop (headLen ops.toList)) S' (Q .normal))))
def execSeq (cx : Cx P) (_ b : Code) (iha ihb : (Exit → St → Prop) → St → Prop) (Q : Exit → St → Prop) (S : St) : Prop := (match at? cx.cuts (firstRegion b) with
    | none => (match at? cx.cutsAt (firstRegion b) with
      | none => iha (fun ex S' => match ex with | .normal => ihb Q S' | ex => Q ex S') S
      | some (k, k2, f) => (match S.intAt k, S.intAt k2 with
        | some n, some n2 => iha (fun ex S' => match ex with | .normal => enter (f n n2) cx.n0 S' (fun _ => True) | ex => Q ex S') S ∧ ∀ i, (f n n2).inv i → ihb Q ((f n n2).T i)
        | _, _ => False))
    | some la => iha (fun ex S' => match ex with | .normal => enter la cx.n0 S' (fun _ => True) | ex => Q ex S') S ∧ ∀ i, la.inv i → ihb Q (la.T i))
def execCond (c : Operand) (_ _ : Code) (iha ihb : (Exit → St → Prop) → St → Prop) (Q : Exit → St → Prop) (S : St) : Prop := (match S.ev c with
    | some (.one (.a c)) => br c (iha Q S) (ihb Q S)
    | _ => False)
def execBlock (id : Nat) (_ : Code) (ih : (Exit → St → Prop) → St → Prop) (Q : Exit → St → Prop) (S : St) : Prop := ih (fun ex S' => match ex with
    | .exit i => (match Nat.beq i id with | true => Q .normal S' | false => Q (.exit i) S')
    | ex => Q ex S') S
noncomputable def execLoop (cx : Cx P) (c : Code) (ih : (Exit → St → Prop) → St → Prop) (Q : Exit → St → Prop) (S : St) : Prop := (match at? cx.loops (firstRegion c) with
    | none => False
    | some (.inv la) => enter la cx.n0 S (fun _ => True) ∧ ∀ i, la.inv i → ih (fun ex S' => match ex with | .normal => enter la cx.n0 S' (fun i' => la.μ i' < la.μ i) | ex => Q ex S') (la.T i)
    | some (.rounds n) => rounds ih Q n S
    | some (.here k f) => (match S.intAt k with
      | some n => enter (f n) cx.n0 S (fun _ => True) ∧ ∀ i, (f n).inv i → ih (fun ex S' => match ex with | .normal => enter (f n) cx.n0 S' (fun i' => (f n).μ i' < (f n).μ i) | ex => Q ex S') ((f n).T i)
      | none => False))
def execRF (_ : Operand) (_ : Array Tmp) (_ _ : Code) (_ _ : (Exit → St → Prop) → St → Prop) (_ : Exit → St → Prop) (_ : St) : Prop := False
def execExit (i : Nat) (Q : Exit → St → Prop) (S : St) : Prop := Q (.exit i) S
def execScope (_ : Code) (_ : (Exit → St → Prop) → St → Prop) (_ : Exit → St → Prop) (_ : St) : Prop := False
def execLabel (_ : Nat) (Q : Exit → St → Prop) (S : St) : Prop := Q .normal S
def execGoto (_ : Nat) (_ : Exit → St → Prop) (_ : St) : Prop := False
def execRet (Q : Exit → St → Prop) (S : St) : Prop := Q .ret S
def execRefuse (_ : String) (_ : Exit → St → Prop) (_ : St) : Prop := False
noncomputable def exec (cx : Cx P) (c : Code) : (Exit → St → Prop) → St → Prop :=
  @Code.rec (fun _ => (Exit → St → Prop) → St → Prop) execN (execReg cx) (execSeq cx) execCond execBlock (execLoop cx) execRF execExit execScope execLabel execGoto execRet execRefuse c
theorem exec_seq {cx : Cx P} {a b : Code} {Q : Exit → St → Prop} {S : St} : exec cx (.seq a b) Q S = (match at? cx.cuts (firstRegion b) with
    | none => (match at? cx.cutsAt (firstRegion b) with
      | none => exec cx a (fun ex S' => match ex with | .normal => exec cx b Q S' | ex => Q ex S') S
      | some (k, k2, f) => (match S.intAt k, S.intAt k2 with
        | some n, some n2 => exec cx a (fun ex S' => match ex with | .normal => enter (f n n2) cx.n0 S' (fun _ => True) | ex => Q ex S') S ∧ ∀ i, (f n n2).inv i → exec cx b Q ((f n n2).T i)
        | _, _ => False))
    | some la => exec cx a (fun ex S' => match ex with | .normal => enter la cx.n0 S' (fun _ => True) | ex => Q ex S') S ∧ ∀ i, la.inv i → exec cx b Q (la.T i)) := rfl
theorem exec_cond {cx : Cx P} {c : Operand} {a b : Code} {Q : Exit → St → Prop} {S : St} : exec cx (.cond c a b) Q S = (match S.ev c with
    | some (.one (.a c)) => br c (exec cx a Q S) (exec cx b Q S)
    | _ => False) := rfl
theorem exec_block {cx : Cx P} {id : Nat} {c : Code} {Q : Exit → St → Prop} {S : St} : exec cx (.block id c) Q S = exec cx c (fun ex S' => match ex with
    | .exit i => (match Nat.beq i id with | true => Q .normal S' | false => Q (.exit i) S')
    | ex => Q ex S') S := rfl
theorem exec_loop {cx : Cx P} {c : Code} {Q : Exit → St → Prop} {S : St} : exec cx (.loop c) Q S = (match at? cx.loops (firstRegion c) with
    | none => False
    | some (.inv la) => enter la cx.n0 S (fun _ => True) ∧ ∀ i, la.inv i → exec cx c (fun ex S' => match ex with | .normal => enter la cx.n0 S' (fun i' => la.μ i' < la.μ i) | ex => Q ex S') (la.T i)
    | some (.rounds n) => rounds (exec cx c) Q n S
    | some (.here k f) => (match S.intAt k with
      | some n => enter (f n) cx.n0 S (fun _ => True) ∧ ∀ i, (f n).inv i → exec cx c (fun ex S' => match ex with | .normal => enter (f n) cx.n0 S' (fun i' => (f n).μ i' < (f n).μ i) | ex => Q ex S') ((f n).T i)
      | none => False)) := rfl
theorem exec_region {cx : Cx P} {id : Nat} {ops : Array Oper} {draw : Bool} {Q : Exit → St → Prop} {S : St} : exec cx (.region id ops draw) Q S = (fSt S fun S => (match draw with
    | false => runOps .norm cx ops ops.toList S (Q .normal)
    | true => (match cx.held id with
      | some (q, l) => HeldOK ops l ∧ (match Nat.ble cx.n0 S.m.length, Mem.ok S.m with
        | true, true => fMem (match q with | true => forget (cx.lose id) S.m | false => []) fun m0 => fMem (match q with | true => mark (cx.lose id) S.m (forget (cx.lose id) S.m) | false => []) fun m1 => runHeld cx ops S.m.length m0 m1 (Q .normal) l S
        | _, _ => False)
      | none => (match ops.toList.all quietB && !(cx.loud id) with
      | true => Lex ops none ∧ runOps .quiet cx ops ops.toList S (Q .normal)
      | false => Lex ops (some (headLen ops.toList)) ∧ runOps .still cx ops (ops.toList.take (headLen ops.toList)) S fun S' => runOps .norm cx ops (ops.toList.drop (headLen ops.toList)) S' (Q .normal))))) := rfl

end
end Go.Sx

/-
  Part 11: that code so carried out does what it is said to do.
-/
namespace Go.Sx
open Go.RowKit

def Sim (e0 : Env) (n0 : Nat) (w0 : World) (W : Nat → Prop) (S : St) (a : Act) (w : World) : Prop :=
  ∃ e, Rel e w0 W S.m w ∧ RelT e S a ∧ (∀ i, i < n0 → e i = e0 i) ∧ n0 ≤ S.m.length

section
variable {P : Program} {e e0 : Env} {w0 : World} {W : Nat → Prop} {w : World} {S : St} {a : Act}

theorem obs_iff {o : Option Prop} {K : Prop} : obs o K ↔ obp o ∧ K := by
  cases o <;> simp [obs, obp]

theorem br_iff {c : SA} {X Y : Prop} (h : br c X Y) : ∃ b, boolOf c = some b ∧ (b = true → X) ∧ (b = false → Y) := by
  unfold br at h
  split at h
  · exact ⟨true, rfl, fun _ => h, fun h => by cases h⟩
  · exact ⟨false, rfl, fun h => (by cases h), fun _ => h⟩
  · rename_i p d
    refine ⟨@decide p d, rfl, fun hb => h.1 (of_decide_eq_true hb), fun hb => h.2 (of_decide_eq_false hb)⟩
  · rename_i b
    exact ⟨b, rfl, h.1, h.2⟩
  · exact h.elim

theorem Slots.ok_get {n : Nat} : ∀ {t : Slots}, Slots.ok n t = true → ∀ (i : Nat) (v : SV), t.get i = some v → v.ok n = true
  | [], _, i, v, h => by cases h
  | (k, u) :: t, hok, i, v, h => by
    simp only [Slots.ok, Bool.and_eq_true] at hok
    simp only [Slots.get] at h
    split at h
    · cases h; exact hok.1
    · exact Slots.ok_get hok.2 i v h

theorem RelT.ext {e' : Env} (h : RelT e S a) (hok : Slots.ok S.m.length S.t = true) (hag : ∀ i, i < S.m.length → e' i = e i) (m : Mem) : RelT e' (S.withMem m) a :=
  ⟨h.size, h.defers, fun i v hi => by rw [SV.congr hag (Slots.ok_get hok i v hi)]; exact h.get i v hi⟩

theorem RelT.mem (h : RelT e S a) (m : Mem) : RelT e (S.withMem m) a := ⟨h.size, h.defers, h.get⟩

theorem evArgs_ok (ht : RelT e S a) : ∀ {l : List Operand} {r : List SV}, evArgs S l = some r → l.map a.eval = r.map (SV.den e)
  | [], _, h => by cases h; rfl
  | x :: l, r, h => by
    simp only [evArgs] at h
    split at h
    · rename_i v r' hv hr
      cases h
      simp [evArgs_ok ht hr, evOk ht hv]
    · cases h

theorem findP_ok : ∀ {l : List (PSpec P)} {f : FuncId} {args : List SV} {m : Mem} {ob : Option Prop} {v : SV}, findP l f args m = some (ob, v) →
    ∃ s ∈ l, ∃ x, s.f = f ∧ s.inp args m = some x ∧ s.pre x = ob ∧ s.res x = v
  | [], _, _, _, _, _, h => by cases h
  | s :: l, f, args, m, ob, v, h => by
    simp only [findP] at h
    split at h
    · rename_i hf
      split at h
      · rename_i x hx
        cases h
        exact ⟨s, List.mem_cons_self, x, Nat.beq_iff.1 hf, hx, rfl, rfl⟩
      · obtain ⟨s', hs, h2⟩ := findP_ok h
        exact ⟨s', List.mem_cons_of_mem _ hs, h2⟩
    · obtain ⟨s', hs, h2⟩ := findP_ok h
      exact ⟨s', List.mem_cons_of_mem _ hs, h2⟩

theorem findE_ok : ∀ {l : List (ESpec P)} {f : FuncId} {args : List SV} {m : Mem} {ob : Option Prop} {v : List Alt}, findE l f args m = some (ob, v) →
    ∃ s ∈ l, ∃ x, s.f = f ∧ s.inp args m = some x ∧ s.pre x = ob ∧ s.res x = v
  | [], _, _, _, _, _, h => by cases h
  | s :: l, f, args, m, ob, v, h => by
    simp only [findE] at h
    split at h
    · rename_i hf
      split at h
      · rename_i x hx
        cases h
        exact ⟨s, List.mem_cons_self, x, Nat.beq_iff.1 hf, hx, rfl, rfl⟩
      · obtain ⟨s', hs, h2⟩ := findE_ok h
        exact ⟨s', List.mem_cons_of_mem _ hs, h2⟩
    · obtain ⟨s', hs, h2⟩ := findE_ok h
      exact ⟨s', List.mem_cons_of_mem _ hs, h2⟩

/-- the call of a function value, as far as the function's entry -/
theorem call_enter {o : Oper} {f : Operand} {args : Array Operand} {ts : Array TypeId} (hop : o.op = .call { callee := .value f, args, argTypes := ts }) (ht : RelT e S a) {g : FuncId}
    {l : List SV} (hl : cloArgs (S.ev f) (evArgs S args.toList) = some (g, l)) : execOp a.eval o = callFunc g (l.map (SV.den e)).toArray := by
  unfold cloArgs at hl
  split at hl
  · rename_i g' caps l' hf hl'
    cases hl
    have he := evOk ht hf
    have ha := evArgs_ok ht hl'
    have ha' : args.map a.eval = (l'.map (SV.den e)).toArray := by apply Array.toList_inj.1; simpa using ha
    have hcap : (caps.map fun c => Value.pointer (at_ e c.1 c.2)) = (caps.map fun c => (.one (.a (.ptr c.1 c.2)) : SV)).map (SV.den e) := by
      rw [List.map_map]; rfl
    simp only [execOp, hop, resolve, he, SV.den, SV1.den, SA.den, Deferred.ofValue, ha', hcap, invoke, List.map_append]
    simp [invoke]
  · rename_i g' p q i st r len cap l' hf hl'
    cases hl
    have he := evOk ht hf
    have ha := evArgs_ok ht hl'
    have ha' : args.map a.eval = (l'.map (SV.den e)).toArray := by apply Array.toList_inj.1; simpa using ha
    simp only [execOp, hop, resolve, he, SV.den, SV1.den, SA.den, Deferred.ofValue, ha', invoke, List.map_cons, List.map_nil]
    simp [invoke, SV.den, SV1.den, SA.den]
  · cases hl

theorem findI_ok : ∀ {l : List (ISpec P)} {f : FuncId} {s : ISpec P}, findI l f = some s → s.f = f
  | [], _, _, h => by cases h
  | x :: l, f, s, h => by
    simp only [findI] at h
    split at h
    · rename_i hb
      cases h
      exact Nat.beq_iff.1 hb
    · exact findI_ok h

theorem runCall_norm {cx : Cx P} {dst : Option Tmp} {f : FuncId} {args : List SV} {K : St → Prop} {K' : Act → World → Prop} (hc : S.can dst = true) (hr : runCall .norm cx dst f args S K) (hs : Sim e0 cx.n0 w0 W S a w)
    (hK : ∀ S' a' w', K S' → Sim e0 cx.n0 w0 W S' a' w' → K' a' w') : ∀ e, Rel e w0 W S.m w → RelT e S a → (∀ i, i < cx.n0 → e i = e0 i) → cx.n0 ≤ S.m.length →
    ((callFunc f (args.map (SV.den e)).toArray).run P w = .ok (.enter f (args.map (SV.den e)).toArray) w ∧ Calls P f (args.map (SV.den e)).toArray w fun r w' => ∃ v, r = .returned v ∧ K' (a.put dst v) w') ∨
    ∃ v, (callFunc f (args.map (SV.den e)).toArray).run P w = .ok (.value v) w ∧ K' (a.put dst v) w := by
  intro e hrel ht he hn
  unfold runCall at hr
  simp only [fSV_eq, fMem_eq] at hr
  split at hr
  · rename_i ob v hf _
    obtain ⟨s, _, x, rfl, hx, rfl, rfl⟩ := findP_ok hf
    obtain ⟨ho, hk⟩ := obs_iff.1 hr
    rcases s.sound args S.m x hx ho e w0 W w hrel with ⟨h0, h⟩ | h
    · refine .inl ⟨h0, h.mono fun r w' ⟨h1, h2⟩ => ⟨_, h1, hK _ _ _ hk ⟨e, ?_, ht.put hc rfl, he, ?_⟩⟩⟩
      · rw [St.put_m]; exact h2
      · rw [St.put_m]; exact hn
    · refine .inr ⟨_, h, hK _ _ _ hk ⟨e, ?_, ht.put hc rfl, he, ?_⟩⟩
      · rw [St.put_m]; exact hrel
      · rw [St.put_m]; exact hn
  · rename_i ob v hf heq
    cases heq
  · split at hr
    · rename_i ob l hf hok
      obtain ⟨s, _, x, rfl, hx, rfl, rfl⟩ := findE_ok hf
      obtain ⟨ho, hk⟩ := obs_iff.1 hr
      simp only [St.ok, Bool.and_eq_true] at hok
      have after : ∀ (v : SV) (m : Mem) (r : Ending) (w' : World), After e S.m.length w0 W v m r w' → (match Nat.ble cx.n0 m.length with | true => K ((S.withMem m).put dst v) | false => False) → ∃ u, r = .returned u ∧ K' (a.put dst u) w' := by
        rintro v m r w' ⟨e', h1, h2, h3⟩ hk
        split at hk
        · rename_i hle
          have hle := Nat.ble_iff.1 hle
          refine ⟨_, h2, hK _ _ _ hk ⟨e', ?_, (ht.ext hok.1 h1 m).put hc rfl, fun i hi => ?_, ?_⟩⟩
          · rw [St.put_m]; exact h3
          · rw [h1 i (by omega)]; exact he i hi
          · rw [St.put_m]; exact hle
        · exact hk.elim
      refine .inl ⟨s.ent _ _, (s.sound args S.m x hx ho hok.2 e w0 W w hrel).mono fun r w' ⟨al, hal, hsay⟩ => ?_⟩
      have hk2 := altsK_mem hk al hal
      cases al with
      | one v m => exact after v m r w' hsay hk2
      | cond p v m => exact after v m r w' hsay.2 (hk2 hsay.1)
      | fam α p v m =>
        obtain ⟨y, h1, h2⟩ := hsay
        exact after _ _ r w' h2 (hk2 y h1)
    · rename_i hf hok
      simp only [St.ok, Bool.and_eq_true] at hok
      split at hr
      · rename_i s hs
        obtain rfl := findI_ok hs
        refine .inl ⟨s.ent _ _, (s.sound args S.m _ hr e w0 W w hrel).mono fun r w' ⟨v, m, hk, e', h1, h2, h3⟩ => ?_⟩
        split at hk
        · rename_i hle
          have hle := Nat.ble_iff.1 hle
          refine ⟨_, h2, hK _ _ _ hk ⟨e', ?_, (ht.ext hok.1 h1 m).put hc rfl, fun i hi => ?_, ?_⟩⟩
          · rw [St.put_m]; exact h3
          · rw [h1 i (by omega)]; exact he i hi
          · rw [St.put_m]; exact hle
        · exact hk.elim
      · exact hr.elim
    · exact hr.elim
  · exact hr.elim

theorem pl_iff {ob : Option Prop} {x : Int} {n : Nat} {f : Nat → SV} {K : SV → Prop} (ho : andO ob (0 ≤ x ∧ x < n)) (hk : allAlts K (places x n f)) : obp ob ∧ ∃ j : Nat, j < n ∧ x = (j : Int) ∧ K (f j) := by
  have h1 : obp ob ∧ 0 ≤ x ∧ x < n := by
    cases ob with
    | none => exact ⟨trivial, ho⟩
    | some q => exact ho
  obtain ⟨h2, h3, h4⟩ := h1
  have key : ∀ {l : List (Prop × SV)} {pv : Prop × SV}, allAlts K l → pv ∈ l → pv.1 → K pv.2 := by
    intro l pv
    induction l with
    | nil => intro _ h; cases h
    | cons q l ih =>
      intro h hm hp
      rcases List.mem_cons.1 hm with rfl | hm
      · exact h.1 hp
      · exact ih h.2 hm hp
  exact ⟨h2, x.toNat, by omega, by omega, key (pv := (x = ((x.toNat : Nat) : Int), f x.toNat)) hk (List.mem_map.2 ⟨x.toNat, by simp; omega, rfl⟩) (by simp; omega)⟩

theorem findX_good {S : St} {o : Oper} (h : Rel e w0 W S.m w) (ht : RelT e S a) : ∀ (l : List (XRead P)), Good P e w0 W S a w o (findX l S o)
  | [] => trivial
  | s :: l => by
    unfold findX
    split
    · exact findX_good h ht l
    · exact s.sound h ht
theorem rdX_sound {cx : Cx P} {S : St} {o : Oper} (h : Rel e w0 W S.m w) (ht : RelT e S a) : Good P e w0 W S a w o (rdX cx S o) := by
  unfold rdX
  split
  · exact findX_good h ht _
  · exact rdOp_sound h ht
theorem findA_ok {S : St} {o : Oper} {ob : Option Prop} {l : List Alt} : ∀ {xs : List (XAct P)}, findA xs S o = some (ob, l) → ∃ s ∈ xs, s.act S o = some (ob, l)
  | [], h => by cases h
  | s :: xs, h => by
    unfold findA at h
    split at h
    · obtain ⟨t, h1, h2⟩ := findA_ok h
      exact ⟨t, List.mem_cons_of_mem _ h1, h2⟩
    · rename_i hs
      cases h
      exact ⟨s, List.mem_cons_self, hs⟩

theorem runOp_norm {cx : Cx P} {o : Oper} {K : St → Prop} {K' : Act → World → Prop} {Q' : Exit → Act → World → Prop} (hr : runOp .norm cx o S K) (hs : Sim e0 cx.n0 w0 W S a w)
    (hK : ∀ S' a' w', K S' → Sim e0 cx.n0 w0 W S' a' w' → K' a' w') : o.wp P a w K' Q' := by
  unfold runOp at hr
  split at hr
  · exact hr.elim
  rename_i hc
  obtain ⟨e, hrel, ht, he, hn⟩ := hs
  split at hr
  · rename_i c x y hop
    split at hr
    · rename_i cv xv yv hcv hxv hyv
      obtain ⟨b, hb, h1, h2⟩ := br_iff hr
      have hce := evOk ht hcv
      simp only [SV.den, SV1.den, boolOf_den hb] at hce
      unfold Oper.wp
      cases b with
      | true =>
        have : (execOp a.eval o).run P w = .ok (.value (xv.den e)) w := by simp [execOp, hop, hce, asBool, evOk ht hxv]
        rw [this]
        exact hK _ _ _ (h1 rfl) ⟨e, by rw [St.put_m]; exact hrel, ht.put hc rfl, he, by rw [St.put_m]; exact hn⟩
      | false =>
        have : (execOp a.eval o).run P w = .ok (.value (yv.den e)) w := by simp [execOp, hop, hce, asBool, evOk ht hyv]
        rw [this]
        exact hK _ _ _ (h2 rfl) ⟨e, by rw [St.put_m]; exact hrel, ht.put hc rfl, he, by rw [St.put_m]; exact hn⟩
    · exact hr.elim
  · rename_i f args ts hop
    split at hr
    · rename_i g l hl
      have hen := call_enter hop ht hl
      unfold Oper.wp
      rcases runCall_norm (K' := K') hc hr ⟨e, hrel, ht, he, hn⟩ hK e hrel ht he hn with ⟨h1, h2⟩ | ⟨v, h1, h2⟩
      · rw [hen, h1]
        refine h2.mono fun r w' ⟨v, hv, hk⟩ => ?_
        subst hv; exact hk
      · rw [hen, h1]
        exact h2
    · exact hr.elim
  · have hg := rdX_sound (P := P) (cx := cx) (o := o) hrel ht
    generalize rdX cx S o = R at hr hg
    unfold Oper.wp
    split at hr
    · obtain ⟨ho, hk⟩ := obs_iff.1 hr
      rw [hg ho]
      exact hK _ _ _ hk ⟨e, by rw [St.put_m]; exact hrel, ht.put hc rfl, he, by rw [St.put_m]; exact hn⟩
    · obtain ⟨ho, hk⟩ := hr
      obtain ⟨ho, j, hj, hx, hk⟩ := pl_iff ho hk
      rw [hg ho j hj hx]
      exact hK _ _ _ hk ⟨e, by rw [St.put_m]; exact hrel, ht.put hc rfl, he, by rw [St.put_m]; exact hn⟩
    · rename_i ob r f _
      split at hr
      · rename_i hok
        simp only [Bool.and_eq_true, St.ok] at hok
        obtain ⟨ho, hk⟩ := obs_iff.1 hr
        obtain ⟨o', hn'⟩ := hg ho hok.2
        have hag : ∀ i, i < S.m.length → (fun i => if i = S.m.length then some ⟨w.heap.size, 0, none⟩ else e i) i = e i := fun i hi => by
          show (if i = S.m.length then _ else e i) = _
          rw [if_neg (by omega)]
        obtain ⟨hrun, hreg⟩ := hn' (fun i => if i = S.m.length then some ⟨w.heap.size, 0, none⟩ else e i) hag (by simp)
        rw [hrun]
        refine hK _ _ _ hk ⟨_, ?_, (ht.ext hok.1.1 hag (S.m ++ [some r])).put (S := S.withMem (S.m ++ [some r])) hc rfl, fun i hi => ?_, ?_⟩
        · rw [St.put_m]; exact hrel.alloc hag (by simp) hok.1.2 hreg (fun rw t x I hh => Con.okN_not hok.2 t x I (by rw [hh]))
        · show (if i = S.m.length then _ else e i) = _
          rw [if_neg (by omega)]; exact he i hi
        · rw [St.put_m]; simp [St.withMem]; omega
      · exact hr.elim
    · rename_i ob gone st len reg _
      split at hr
      · rename_i hok
        simp only [St.ok, Bool.and_eq_true] at hok
        obtain ⟨ho, hk⟩ := hr
        obtain ⟨cap, tl, A, w', h1, h2, hrun, hrel'⟩ := hg ho hok.2
        have hag : ∀ i, i < S.m.length → (fun i => if i = S.m.length then A else e i) i = e i := fun i hi => by
          show (if i = S.m.length then _ else e i) = _
          rw [if_neg (by omega)]
        have hlen : (goneR gone S.m).length = S.m.length := by cases gone <;> simp [goneR]
        rw [hrun]
        refine hK _ _ _ (hk cap tl h1 h2) ⟨_, ?_, (ht.ext hok.1 hag (goneR gone S.m ++ [some (reg cap tl)])).put (S := S.withMem (goneR gone S.m ++ [some (reg cap tl)])) hc ?_, fun i hi => ?_, ?_⟩
        · rw [St.put_m]; exact hrel' _ hag (by simp)
        · cases A <;> simp [SV.den, SV1.den, SA.den, at_, Addr.add_zero']
        · exact (hag i (by omega)).trans (he i hi)
        · rw [St.put_m]; simp [St.withMem, hlen]; omega
      · exact hr.elim
    · rename_i ob i r _
      obtain ⟨ho, hk⟩ := obs_iff.1 hr
      obtain ⟨w', hrun, hrel'⟩ := hg ho
      rw [hrun]
      refine hK _ _ _ hk ⟨e, ?_, (ht.mem (S.m.set i (some r))).put (S := S.withMem (S.m.set i (some r))) hc rfl, he, ?_⟩
      · rw [St.put_m]; exact hrel'
      · rw [St.put_m]; simp [St.withMem]; exact hn
    · rename_i ob i r v _
      obtain ⟨ho, hk⟩ := obs_iff.1 hr
      obtain ⟨w', hrun, hrel'⟩ := hg ho
      rw [hrun]
      refine hK _ _ _ hk ⟨e, ?_, (ht.mem (S.m.set i (some r))).put (S := S.withMem (S.m.set i (some r))) hc rfl, he, ?_⟩
      · rw [St.put_m]; exact hrel'
      · rw [St.put_m]; simp [St.withMem]; exact hn
    · split at hr
      · rename_i ob l hf hok
        obtain ⟨s, _, hact⟩ := findA_ok hf
        obtain ⟨ho, hk⟩ := obs_iff.1 hr
        obtain ⟨v, w', hrun, al, hal, hsay⟩ := s.sound S o ob l hact ho hok e w0 W w a hrel ht
        suffices hgo : K' (a.put o.dst v) w' by
          rcases hrun with hrun | ⟨rfl, hrun⟩ <;> (rw [hrun]; exact hgo)
        simp only [St.ok, Bool.and_eq_true] at hok
        have after : ∀ (v2 : SV) (m : Mem), After e S.m.length w0 W v2 m (.returned v) w' → (fSV v2 fun v => fMem m fun m => match Nat.ble cx.n0 m.length with | true => K ((S.withMem m).put o.dst v) | false => False) → K' (a.put o.dst v) w' := by
          rintro v2 m ⟨e', h1, h2, h3⟩ hk
          simp only [fSV_eq, fMem_eq] at hk
          split at hk
          · rename_i hle
            have hle := Nat.ble_iff.1 hle
            have h2 : v = v2.den e' := by injection h2
            subst h2
            refine hK _ _ _ hk ⟨e', ?_, (ht.ext hok.1 h1 m).put hc rfl, fun i hi => ?_, ?_⟩
            · rw [St.put_m]; exact h3
            · rw [h1 i (by omega)]; exact he i hi
            · rw [St.put_m]; exact hle
          · exact hk.elim
        have hk2 := altsK_mem hk al hal
        cases al with
        | one v2 m => exact after v2 m hsay hk2
        | cond p v2 m => exact after v2 m hsay.2 (hk2 hsay.1)
        | fam α p v2 m =>
          obtain ⟨y, h1, h2⟩ := hsay
          exact after _ _ h2 (hk2 y h1)
      · exact hr.elim
    · exact hr.elim

/-! ### Guards -/

theorem wanted_guard {all : Array Oper} {o : Oper} {j : Nat} {want : Bool} {d : Tmp} {c : SA} {b : Bool} (ht : RelT e S a) (hg : o.guard = some (j, want)) (hd : (all[j]?).bind (·.dst) = some d) (hc : S.t.get d = some (.one (.a c))) (hb : boolOf c = some b) :
    Region.wanted o (yielded all a.tmps) = (b == want) := by
  have h1 := ht.get d _ hc
  simp only [SV.den, SV1.den, boolOf_den hb] at h1
  simp only [Region.wanted, hg, yielded, hd, Option.bind_some, h1]
  cases b <;> cases want <;> rfl

theorem unwanted_guard {all : Array Oper} {o : Oper} {j : Nat} {want : Bool} {d : Tmp} (ht : RelT e S a) (hg : o.guard = some (j, want)) (hd : (all[j]?).bind (·.dst) = some d) (hc : S.t.get d = some (.tup [])) :
    Region.wanted o (yielded all a.tmps) = false := by
  have h1 := ht.get d _ hc
  simp only [SV.den, List.map_nil] at h1
  simp only [Region.wanted, hg, yielded, hd, Option.bind_some, h1]
  rfl

theorem RelT.know {d : Tmp} {c : SA} {b : Bool} (ht : RelT e S a) (hc : S.t.get d = some (.one (.a c))) (hb : boolOf c = some b) : RelT e (S.put (some d) (.one (.a (if b then .tt else .ff)))) a := by
  refine ⟨ht.size, ht.defers, fun i v hi => ?_⟩
  simp only [St.put, Slots.get] at hi
  split at hi
  · rename_i hd
    have := Nat.beq_iff.1 hd
    subst this
    cases hi
    rw [ht.get d _ hc]
    simp only [SV.den, SV1.den, boolOf_den hb]
    cases b <;> rfl
  · exact ht.get i v hi

theorem runOps_norm {cx : Cx P} {all : Array Oper} {Q' : Exit → Act → World → Prop} {K : St → Prop} (hK : ∀ S' a' w', K S' → Sim e0 cx.n0 w0 W S' a' w' → Q' .normal a' w') : ∀ (l : List Oper) (S : St) (a : Act) (w : World),
    runOps .norm cx all l S K → Sim e0 cx.n0 w0 W S a w → wpList P all Q' l a w
  | [], S, a, w, hr, hs => hK S a w hr hs
  | o :: rest, S, a, w, hr, hs => by
    simp only [runOps_cons] at hr
    have ih := fun S a w => runOps_norm (all := all) hK rest S a w
    split at hr
    · rename_i hg
      unfold wpList
      rw [if_pos (by simp [Region.wanted, hg])]
      exact .inl (runOp_norm hr hs ih)
    · rename_i j want hg
      split at hr
      · exact hr.elim
      · rename_i d hd
        split at hr
        · rename_i c hc hcan
          obtain ⟨b, hb, h1, h2⟩ := br_iff hr
          obtain ⟨e, hrel, ht, he, hn⟩ := hs
          have hw := wanted_guard (all := all) ht hg hd hc hb
          have hk := ht.know hc hb
          unfold wpList
          rw [hw]
          have skip : ∀ x : SA, RelT e (S.put (some d) (.one (.a x))) a → Sim e0 cx.n0 w0 W ((S.put (some d) (.one (.a x))).put o.dst (.tup [])) (a.put o.dst undef) w := fun x hx =>
            ⟨e, by rw [St.put_m]; exact hrel, hx.put (by cases hd' : o.dst with | none => rfl | some q => rw [hd'] at hcan; exact hcan) rfl, he, by rw [St.put_m]; exact hn⟩
          cases b with
          | true =>
            have h1 := h1 rfl
            have hk : RelT e (S.put (some d) (.one (.a .tt))) a := hk
            cases want with
            | true =>
              simp only [sel] at h1
              rw [if_pos (by decide)]
              exact .inl (runOp_norm h1 ⟨e, hrel, hk, he, hn⟩ ih)
            | false =>
              simp only [sel] at h1
              rw [if_neg (by simp)]
              exact ih _ _ _ h1 (skip _ hk)
          | false =>
            have h2 := h2 rfl
            have hk : RelT e (S.put (some d) (.one (.a .ff))) a := hk
            cases want with
            | true =>
              simp only [sel] at h2
              rw [if_neg (by simp)]
              exact ih _ _ _ h2 (skip _ hk)
            | false =>
              simp only [sel] at h2
              rw [if_pos (by decide)]
              exact .inl (runOp_norm h2 ⟨e, hrel, hk, he, hn⟩ ih)
        · rename_i hc hcan
          obtain ⟨e, hrel, ht, he, hn⟩ := hs
          unfold wpList
          rw [unwanted_guard (all := all) ht hg hd hc, if_neg (by simp)]
          exact ih _ _ _ hr ⟨e, by rw [St.put_m]; exact hrel, ht.put hcan rfl, he, by rw [St.put_m]; exact hn⟩
        · exact hr.elim

/-! ### A region that draws its order: operations that leave the world as it is -/

theorem runOp_still {cx : Cx P} {o : Oper} {K : St → Prop} {K' : Act → Prop} (hr : runOp .still cx o S K) (hrel : Rel e w0 W S.m w) (ht : RelT e S a)
    (hK : ∀ S' a', K S' → S'.m = S.m → RelT e S' a' → K' a') : o.still P a w K' := by
  unfold runOp at hr
  split at hr
  · exact hr.elim
  rename_i hc
  split at hr
  · rename_i c x y hop
    split at hr
    · rename_i cv xv yv hcv hxv hyv
      obtain ⟨b, hb, h1, h2⟩ := br_iff hr
      have hce := evOk ht hcv
      simp only [SV.den, SV1.den, boolOf_den hb] at hce
      unfold Oper.still
      cases b with
      | true =>
        have : (execOp a.eval o).run P w = .ok (.value (xv.den e)) w := by simp [execOp, hop, hce, asBool, evOk ht hxv]
        rw [this]
        exact ⟨rfl, hK _ _ (h1 rfl) (St.put_m ..) (ht.put hc rfl)⟩
      | false =>
        have : (execOp a.eval o).run P w = .ok (.value (yv.den e)) w := by simp [execOp, hop, hce, asBool, evOk ht hyv]
        rw [this]
        exact ⟨rfl, hK _ _ (h2 rfl) (St.put_m ..) (ht.put hc rfl)⟩
    · exact hr.elim
  · rename_i f args ts hop
    split at hr
    · unfold runCall at hr
      split at hr
      · rename_i heq; cases heq
      · rename_i heq; cases heq
      · rename_i heq; cases heq
      · exact hr.elim
    · exact hr.elim
  · have hg := rdX_sound (P := P) (cx := cx) (o := o) hrel ht
    generalize rdX cx S o = R at hr hg
    unfold Oper.still
    split at hr
    · obtain ⟨ho, hk⟩ := obs_iff.1 hr
      rw [hg ho]
      exact ⟨rfl, hK _ _ hk (St.put_m ..) (ht.put hc rfl)⟩
    · obtain ⟨ho, hk⟩ := hr
      obtain ⟨ho, j, hj, hx, hk⟩ := pl_iff ho hk
      rw [hg ho j hj hx]
      exact ⟨rfl, hK _ _ hk (St.put_m ..) (ht.put hc rfl)⟩
    · rename_i heq; cases heq
    · rename_i heq; cases heq
    · rename_i heq; cases heq
    · rename_i heq; cases heq
    · rename_i heq; cases heq
    · exact hr.elim

theorem runOps_still {cx : Cx P} {all : Array Oper} {w : World} {m : Mem} {K : St → Prop} {K' : Act → Prop} (hrel : Rel e w0 W m w) (hK : ∀ S' a', K S' → S'.m = m → RelT e S' a' → K' a') : ∀ (l : List Oper) (S : St) (a : Act),
    runOps .still cx all l S K → S.m = m → RelT e S a → wpStill P all w K' l a
  | [], S, a, hr, hm, ht => hK S a hr hm ht
  | o :: rest, S, a, hr, hm, ht => by
    subst hm
    simp only [runOps_cons] at hr
    have ih := fun S' a' (h1 : runOps .still cx all rest S' K) (h2 : S'.m = S.m) (h3 : RelT e S' a') => runOps_still hrel hK rest S' a' h1 h2 h3
    split at hr
    · rename_i hg
      unfold wpStill
      rw [if_pos (by simp [Region.wanted, hg])]
      exact runOp_still hr hrel ht ih
    · rename_i j want hg
      split at hr
      · exact hr.elim
      · rename_i d hd
        split at hr
        · rename_i c hc hcan
          obtain ⟨b, hb, h1, h2⟩ := br_iff hr
          have hw := wanted_guard (all := all) ht hg hd hc hb
          have hk := ht.know hc hb
          unfold wpStill
          rw [hw]
          have cn : ∀ x : SA, (S.put (some d) (.one (.a x))).can o.dst = true := fun x => by
            cases hd' : o.dst with | none => rfl | some q => rw [hd'] at hcan; exact hcan
          cases b with
          | true =>
            have h1 := h1 rfl
            have hk : RelT e (S.put (some d) (.one (.a .tt))) a := hk
            cases want with
            | true =>
              simp only [sel] at h1
              rw [if_pos (by decide)]
              exact runOp_still (S := S.put (some d) (.one (.a .tt))) h1 hrel hk ih
            | false =>
              simp only [sel] at h1
              rw [if_neg (by simp)]
              exact ih _ _ h1 (St.put_m ..) (hk.put (cn _) rfl)
          | false =>
            have h2 := h2 rfl
            have hk : RelT e (S.put (some d) (.one (.a .ff))) a := hk
            cases want with
            | true =>
              simp only [sel] at h2
              rw [if_neg (by simp)]
              exact ih _ _ h2 (St.put_m ..) (hk.put (cn _) rfl)
            | false =>
              simp only [sel] at h2
              rw [if_pos (by decide)]
              exact runOp_still (S := S.put (some d) (.one (.a .ff))) h2 hrel hk ih
        · rename_i hc hcan
          unfold wpStill
          rw [unwanted_guard (all := all) ht hg hd hc, if_neg (by simp)]
          exact ih _ _ hr (St.put_m ..) (ht.put hcan rfl)
        · exact hr.elim

/-! ### .. and calls that leave the known memory as it is -/

theorem runOp_quiet {cx : Cx P} {o : Oper} {K : St → Prop} {K' : Act → Prop} (hr : runOp .quiet cx o S K) (ht : RelT e S a)
    (hK : ∀ S' a', K S' → S'.m = S.m → RelT e S' a' → K' a') : o.quiet P a (Rel e w0 W S.m) K' := by
  unfold runOp at hr
  split at hr
  · exact hr.elim
  rename_i hc
  split at hr
  · rename_i c x y hop
    split at hr
    · rename_i cv xv yv hcv hxv hyv
      obtain ⟨b, hb, h1, h2⟩ := br_iff hr
      have hce := evOk ht hcv
      simp only [SV.den, SV1.den, boolOf_den hb] at hce
      cases b with
      | true =>
        refine ⟨xv.den e, fun w _ => ?_, hK _ _ (h1 rfl) (St.put_m ..) (ht.put hc rfl)⟩
        have : (execOp a.eval o).run P w = .ok (.value (xv.den e)) w := by simp [execOp, hop, hce, asBool, evOk ht hxv]
        unfold Oper.quietAt
        rw [this]; exact ⟨rfl, rfl⟩
      | false =>
        refine ⟨yv.den e, fun w _ => ?_, hK _ _ (h2 rfl) (St.put_m ..) (ht.put hc rfl)⟩
        have : (execOp a.eval o).run P w = .ok (.value (yv.den e)) w := by simp [execOp, hop, hce, asBool, evOk ht hyv]
        unfold Oper.quietAt
        rw [this]; exact ⟨rfl, rfl⟩
    · exact hr.elim
  · rename_i f args ts hop
    split at hr
    · rename_i g l hl
      have hen := call_enter hop ht hl
      unfold runCall at hr
      split at hr
      · rename_i heq; cases heq
      · rename_i ob v hfp heq
        obtain ⟨s, _, x, rfl, hx, rfl, rfl⟩ := findP_ok hfp
        obtain ⟨ho, hk⟩ := obs_iff.1 hr
        refine ⟨(s.res x).den e, fun w hw => ?_, hK _ _ hk (St.put_m ..) (ht.put hc rfl)⟩
        unfold Oper.quietAt
        rcases s.sound _ _ x hx ho e w0 W w hw with ⟨h0, h⟩ | h
        · rw [hen, h0]
          exact ⟨rfl, h⟩
        · rw [hen, h]
          exact ⟨rfl, rfl⟩
      · rename_i heq; cases heq
      · exact hr.elim
    · exact hr.elim
  · generalize hR : rdX cx S o = R at hr
    split at hr
    · rename_i ob v
      obtain ⟨ho, hk⟩ := obs_iff.1 hr
      refine ⟨v.den e, fun w hw => ?_, hK _ _ hk (St.put_m ..) (ht.put hc rfl)⟩
      have hg := rdX_sound (P := P) (cx := cx) (o := o) hw ht
      rw [hR] at hg
      unfold Oper.quietAt
      rw [hg ho]; exact ⟨rfl, rfl⟩
    · rename_i ob x n f
      obtain ⟨ho, hk⟩ := hr
      obtain ⟨ho, j, hj, hx, hk⟩ := pl_iff ho hk
      refine ⟨(f j).den e, fun w hw => ?_, hK _ _ hk (St.put_m ..) (ht.put hc rfl)⟩
      have hg := rdX_sound (P := P) (cx := cx) (o := o) hw ht
      rw [hR] at hg
      unfold Oper.quietAt
      rw [hg ho j hj hx]; exact ⟨rfl, rfl⟩
    · rename_i heq; cases heq
    · rename_i heq; cases heq
    · rename_i heq; cases heq
    · rename_i heq; cases heq
    · rename_i heq; cases heq
    · exact hr.elim

theorem runOps_quiet {cx : Cx P} {all : Array Oper} {m : Mem} {K : St → Prop} {K' : Act → Prop} (hK : ∀ S' a', K S' → S'.m = m → RelT e S' a' → K' a') : ∀ (l : List Oper) (S : St) (a : Act),
    runOps .quiet cx all l S K → S.m = m → RelT e S a → wpQuiet P all (Rel e w0 W m) K' l a
  | [], S, a, hr, hm, ht => hK S a hr hm ht
  | o :: rest, S, a, hr, hm, ht => by
    subst hm
    simp only [runOps_cons] at hr
    have ih := fun S' a' (h1 : runOps .quiet cx all rest S' K) (h2 : S'.m = S.m) (h3 : RelT e S' a') => runOps_quiet hK rest S' a' h1 h2 h3
    split at hr
    · rename_i hg
      unfold wpQuiet
      rw [if_pos (by simp [Region.wanted, hg])]
      exact runOp_quiet hr ht ih
    · rename_i j want hg
      split at hr
      · exact hr.elim
      · rename_i d hd
        split at hr
        · rename_i c hc hcan
          obtain ⟨b, hb, h1, h2⟩ := br_iff hr
          have hw := wanted_guard (all := all) ht hg hd hc hb
          have hk := ht.know hc hb
          unfold wpQuiet
          rw [hw]
          have cn : ∀ x : SA, (S.put (some d) (.one (.a x))).can o.dst = true := fun x => by
            cases hd' : o.dst with | none => rfl | some q => rw [hd'] at hcan; exact hcan
          cases b with
          | true =>
            have h1 := h1 rfl
            have hk : RelT e (S.put (some d) (.one (.a .tt))) a := hk
            cases want with
            | true =>
              simp only [sel] at h1
              rw [if_pos (by decide)]
              exact runOp_quiet (S := S.put (some d) (.one (.a .tt))) h1 hk ih
            | false =>
              simp only [sel] at h1
              rw [if_neg (by simp)]
              exact ih _ _ h1 (St.put_m ..) (hk.put (cn _) rfl)
          | false =>
            have h2 := h2 rfl
            have hk : RelT e (S.put (some d) (.one (.a .ff))) a := hk
            cases want with
            | true =>
              simp only [sel] at h2
              rw [if_neg (by simp)]
              exact ih _ _ h2 (St.put_m ..) (hk.put (cn _) rfl)
            | false =>
              simp only [sel] at h2
              rw [if_pos (by decide)]
              exact runOp_quiet (S := S.put (some d) (.one (.a .ff))) h2 hk ih
        · rename_i hc hcan
          unfold wpQuiet
          rw [unwanted_guard (all := all) ht hg hd hc, if_neg (by simp)]
          exact ih _ _ hr (St.put_m ..) (ht.put hcan rfl)
        · exact hr.elim

/-! ### A region whose operations are taken in an order of our own -/

theorem Rel.agree {e' : Env} {m : Mem} (h : Rel e w0 W m w) (hag : ∀ i, i < m.length → e' i = e i) (hok : Mem.ok m = true) : Rel e' w0 W m w := by
  have hl : ∀ i (r : Reg), m[i]? = some (some r) → i < m.length := fun i r hi => (List.getElem?_eq_some_iff.1 hi).1
  refine ⟨h.fr, fun i r hi => ?_, fun i j ri rj a b hij hi hj hrw hsi hsj ha hb => ?_, fun i r a hi hrw hs ha => ?_,
    h.obj.imp fun F hF => hF.to (fun hj => ⟨hj, hag _ hj.lt⟩) (Nat.le_refl _) (fun _ _ => rfl) (fun hi hj hs ha => hF.off hi hj hs (by rw [← hag _ (List.getElem?_eq_some_iff.1 hj).1]; exact ha)), h.ro.to fun i t x I hi => ⟨i, hi, hag i (hl i _ hi)⟩⟩
  · rw [hag i (hl i r hi)]
    have h2 := h.reg i r hi
    refine ⟨fun j v hv => ?_, h2.map⟩
    rw [Con.congr hag (Mem.ok_get hok hi)] at hv
    exact h2.cell j v hv
  · rw [hag i (hl i ri hi)] at ha
    rw [hag j (hl j rj hj)] at hb
    exact h.sep i j ri rj a b hij hi hj hrw hsi hsj ha hb
  · rw [hag i (hl i r hi)] at ha
    exact h.wr i r a hi hrw hs ha

theorem can_put {S : St} {d : Tmp} {v : SV} {o : Oper} (h : S.can o.dst = true) : (S.put (some d) v).can o.dst = true := by
  cases hd' : o.dst with | none => rfl | some q => rw [hd'] at h; exact h

theorem stepG_ok {all : Array Oper} {run : Oper → St → (St → Prop) → Prop} {o : Oper} {K : St → Prop} (h : stepG all run o S K) (ht : RelT e S a) :
    (Region.wanted o (yielded all a.tmps) = true ∧ ∃ S1 : St, S1.m = S.m ∧ RelT e S1 a ∧ run o S1 K) ∨ (Region.wanted o (yielded all a.tmps) = false ∧ ∃ S1 : St, S1.m = S.m ∧ RelT e S1 (a.put o.dst undef) ∧ K S1) := by
  unfold stepG at h
  split at h
  · rename_i hg
    exact .inl ⟨by simp [Region.wanted, hg], S, rfl, ht, h⟩
  · rename_i j want hg
    split at h
    · exact h.elim
    · rename_i d hd
      split at h
      · rename_i c hc hcan
        obtain ⟨b, hb, h1, h2⟩ := br_iff h
        have hw := wanted_guard (all := all) ht hg hd hc hb
        have hk := ht.know hc hb
        cases b with
        | true =>
          have h1 := h1 rfl
          have hk : RelT e (S.put (some d) (.one (.a .tt))) a := hk
          cases want with
          | true => exact .inl ⟨by rw [hw]; rfl, _, St.put_m .., hk, h1⟩
          | false => exact .inr ⟨by rw [hw]; rfl, _, by rw [St.put_m, St.put_m], hk.put (can_put hcan) rfl, h1⟩
        | false =>
          have h2 := h2 rfl
          have hk : RelT e (S.put (some d) (.one (.a .ff))) a := hk
          cases want with
          | true => exact .inr ⟨by rw [hw]; rfl, _, by rw [St.put_m, St.put_m], hk.put (can_put hcan) rfl, h2⟩
          | false => exact .inl ⟨by rw [hw]; rfl, _, St.put_m .., hk, h2⟩
      · rename_i hc hcan
        exact .inr ⟨unwanted_guard (all := all) ht hg hd hc, _, St.put_m .., ht.put hcan rfl, h⟩
      · exact h.elim

theorem runStill_ok {m0 : Mem} {o : Oper} {K : St → Prop} (h : runStill (P := P) m0 o S K) (ht : RelT e S a) :
    ∃ v : SV, (∀ w, Rel e w0 W m0 w → (execOp a.eval o).run P w = .ok (.value (v.den e)) w) ∧ S.can o.dst = true ∧ K (S.put o.dst v) := by
  unfold runStill at h
  split at h
  · exact h.elim
  rename_i hc
  split at h
  · rename_i c x y hop
    split at h
    · rename_i cv xv yv hcv hxv hyv
      obtain ⟨b, hb, h1, h2⟩ := br_iff h
      have hce := evOk ht hcv
      simp only [SV.den, SV1.den, boolOf_den hb] at hce
      cases b with
      | true => exact ⟨xv, fun w _ => by simp [execOp, hop, hce, asBool, evOk ht hxv], hc, h1 rfl⟩
      | false => exact ⟨yv, fun w _ => by simp [execOp, hop, hce, asBool, evOk ht hyv], hc, h2 rfl⟩
    · exact h.elim
  · exact h.elim
  · have hg := fun w (hrel : Rel e w0 W m0 w) => rdOp_sound (P := P) (o := o) (S := S.withMem m0) (w := w) (w0 := w0) (W := W) hrel (ht.mem m0)
    generalize rdOp P (S.withMem m0) o = R at h hg
    split at h
    · obtain ⟨ho, hk⟩ := obs_iff.1 h
      exact ⟨_, fun w hrel => hg w hrel ho, hc, hk⟩
    · obtain ⟨ho, hk⟩ := h
      obtain ⟨ho, j, hj, hx, hk⟩ := pl_iff ho hk
      exact ⟨_, fun w hrel => hg w hrel ho j hj hx, hc, hk⟩
    · exact h.elim

/-- no panic -/
def NoPan (Q : Exit → Act → World → Prop) : Exit → Act → World → Prop
  | .panic _, _, _ => False
  | e, a, w => Q e a w

theorem keepsM_rel {m0 : Mem} {e' : Env} (hk : keepsM m0 S.m) (hrel : Rel e' w0 W S.m w) (hag : ∀ i, i < m0.length → e' i = e i) (hok : Mem.ok m0 = true) : Rel e w0 W m0 w := by
  unfold keepsM at hk
  split at hk
  · rename_i l hl
    have hnd : ∀ n : Nat, nodupB (List.range n) = true := by
      intro n
      have key : ∀ (k j : Nat), nodupB (List.range' j k) = true := by
        intro k
        induction k with
        | zero => intro j; rfl
        | succ k ih =>
          intro j
          rw [List.range'_succ]
          simp only [nodupB, Bool.and_eq_true, List.all_eq_true, List.mem_range']
          refine ⟨fun y hy => ?_, ih (j + 1)⟩
          obtain ⟨q, _, rfl⟩ := hy
          have : Nat.beq j (j + 1 + 1 * q) = false := by
            cases hb : Nat.beq j (j + 1 + 1 * q) with
            | false => rfl
            | true => have := Nat.eq_of_beq_eq_true hb; omega
          rw [this]; rfl
      rw [List.range_eq_range']; exact key n 0
    have h1 := hrel.sub hl (allP_iff.1 hk).1 (by simp) (hnd _)
    refine h1.agree (fun i hi => ?_) hok
    simp only [renE, rn, List.getD_eq_getElem?_getD, List.getElem?_range hi, Option.getD_some]
    exact (hag i hi).symm
  · exact hk.elim

theorem actH_ok {cx : Cx P} {all : Array Oper} {Q' : Exit → Act → World → Prop} {m0 : Mem} {n1 : Nat} (hle : m0.length ≤ n1) (hok : Mem.ok m0 = true) {i : Nat} {R : St → Prop} {K : Act → World → Prop} (hr : actH cx all n1 m0 i R S) (hs : Sim e n1 w0 W S a w)
    (hK : ∀ S' a' w', R S' → Sim e n1 w0 W S' a' w' → Rel e w0 W m0 w' → K a' w') : wpOp P all Q' i (fun a' w' => Rel e w0 W m0 w' ∧ K a' w') a w := by
  unfold actH at hr
  split at hr
  · exact hr.elim
  rename_i o ho
  simp only [fSt_eq] at hr
  obtain ⟨e', h1, h2, h3, h4⟩ := hs
  unfold wpOp
  simp only [ho]
  rcases stepG_ok hr h2 with ⟨hw, S1, hm, ht1, hrun⟩ | ⟨hw, S1, hm, ht1, hk⟩
  · rw [if_pos hw]
    refine .inl (runOp_norm (cx := { cx with n0 := n1 }) (e0 := e) (w0 := w0) (W := W) hrun ⟨e', by rw [hm]; exact h1, ht1, h3, by rw [hm]; exact h4⟩ fun S' a' w' hk hs' => ?_)
    have hs2 := hs'
    obtain ⟨e2, g1, g2, g3, g4⟩ := hs'
    have hS' := keepsM_rel hk.1 g1 (fun i hi => g3 i (Nat.lt_of_lt_of_le hi hle)) hok
    exact ⟨hS', hK _ _ _ hk.2 hs2 hS'⟩
  · rw [if_neg (by rw [hw]; simp)]
    have hS' := keepsM_rel hk.1 (by rw [hm]; exact h1) (fun i hi => h3 i (Nat.lt_of_lt_of_le hi hle)) hok
    exact ⟨hS', hK _ _ _ hk.2 ⟨e', by rw [hm]; exact h1, ht1, h3, by rw [hm]; exact h4⟩ hS'⟩

theorem forget_len (l : List Nat) (m : Mem) : (forget l m).length = m.length := by
  induction l with
  | nil => rfl
  | cons i l ih => exact (List.length_set ..).trans ih
theorem set_none_ok {m : Mem} (i : Nat) (h : Mem.ok m = true) : Mem.ok (m.set i none) = true := by
  unfold Mem.ok at *
  rw [List.length_set, List.all_eq_true]
  rw [List.all_eq_true] at h
  intro r hr
  rcases List.mem_or_eq_of_mem_set hr with h9 | rfl
  · exact h r h9
  · rfl
theorem forget_ok {m : Mem} (l : List Nat) (h : Mem.ok m = true) : Mem.ok (forget l m) = true := by
  induction l with
  | nil => exact h
  | cons i l ih => exact set_none_ok i ih
theorem Rel.forget {e : Env} {w0 : World} {W : Nat → Prop} {m : Mem} {w : World} (h : Rel e w0 W m w) (l : List Nat) : Rel e w0 W (Sx.forget l m) w := by
  induction l with
  | nil => exact h
  | cons i l ih => exact Rel.drop ih i
theorem leads_env {m : Mem} (h : Rel e w0 W m w) {i : Nat} (hl : leads m (.ptr i 0) = true) : ∃ a, e i = some a := by
  rcases leads_ok h hl with ⟨A, hA⟩ | ⟨f, caps, hf⟩
  · cases he : e i with
    | some a => exact ⟨a, rfl⟩
    | none => simp [SA.den, at_, he] at hA
  · cases hf
theorem Rel.there {e : Env} {w0 : World} {W : Nat → Prop} {m : Mem} {w : World} (h : Rel e w0 W m w) {i : Nat} {a : Addr} (ha : e i = some a) : Rel e w0 W (m.set i (some ⟨true, .obj 0 {} anyI⟩)) w := by
  have get : ∀ (q : Nat) (r : Reg), (m.set i (some ⟨true, .obj 0 {} anyI⟩))[q]? = some (some r) → (q = i ∧ r = ⟨true, .obj 0 {} anyI⟩) ∨ (q ≠ i ∧ m[q]? = some (some r)) := by
    intro q r hq
    by_cases hi : i = q
    · subst hi
      by_cases hl : i < m.length
      · rw [List.getElem?_set_self hl] at hq; cases hq; exact .inl ⟨rfl, rfl⟩
      · rw [List.getElem?_eq_none (by simp; omega)] at hq; cases hq
    · rw [List.getElem?_set_ne hi] at hq; exact .inr ⟨Ne.symm hi, hq⟩
  obtain ⟨F, hF⟩ := h.obj
  have isO : ∀ {q x I}, IsO (m.set i (some ⟨true, .obj 0 {} anyI⟩)) q x I → (q = i ∧ I = anyI) ∨ (q ≠ i ∧ IsO m q x I) := by
    rintro q x I ⟨t, hq⟩
    rcases get q _ hq with ⟨h1, h2⟩ | ⟨h1, h2⟩
    · cases h2; exact .inl ⟨h1, rfl⟩
    · exact .inr ⟨h1, t, h2⟩
  refine ⟨h.fr, fun q r hq => ?_, fun q j ri rj a b hij hi hj hrw hsi hsj ha hb => ?_, fun q r a hq hrw hs ha => ?_, ⟨fun q b => q ≠ i ∧ F q b, ?_⟩, h.ro.set i fun t x I hh => by cases hh⟩
  · rcases get q r hq with ⟨rfl, rfl⟩ | ⟨_, h2⟩
    · exact ⟨fun j v hv => (by cases hv), fun es c hc => (by cases hc)⟩
    · exact h.reg q r h2
  · rcases get q ri hi with ⟨rfl, rfl⟩ | ⟨_, h2⟩
    · exact hsi.elim
    · rcases get j rj hj with ⟨rfl, rfl⟩ | ⟨_, h3⟩
      · exact hsj.elim
      · exact h.sep q j ri rj a b hij h2 h3 hrw hsi hsj ha hb
  · rcases get q r hq with ⟨rfl, rfl⟩ | ⟨_, h2⟩
    · exact hs.elim
    · exact h.wr q r a h2 hrw hs ha
  · refine ⟨fun {q x I} hq => ?_, fun {q j x y I J b} hij hi hj hb => ?_, fun {q j x I r a} hq hj hs ha => ?_, fun {q x I b} hq hb => ?_⟩
    · rcases isO hq with ⟨rfl, rfl⟩ | ⟨h1, h2⟩
      · exact ⟨⟨a, ha⟩, fun b hb => hb.1 rfl⟩
      · have := hF.ok h2
        have hFe : (fun b => q ≠ i ∧ F q b) = F q := by funext b; simp [h1]
        rw [hFe]; exact this
    · rcases isO hi with ⟨rfl, rfl⟩ | ⟨h1, h2⟩
      · exact absurd rfl hb.1
      · rcases isO hj with ⟨rfl, rfl⟩ | ⟨h3, h4⟩
        · exact fun hc => hc.1 rfl
        · exact fun hc => hF.apart hij h2 h4 hb.2 hc.2
    · rcases isO hq with ⟨rfl, rfl⟩ | ⟨h1, h2⟩
      · exact fun hc => hc.1 rfl
      · rcases get j r hj with ⟨rfl, rfl⟩ | ⟨_, h3⟩
        · exact hs.elim
        · exact fun hc => hF.off h2 h3 hs ha hc.2
    · rcases isO hq with ⟨rfl, rfl⟩ | ⟨h1, h2⟩
      · exact absurd rfl hb.1
      · exact hF.wr h2 hb.2
theorem mark_len (l : List Nat) (m m0 : Mem) : (mark l m m0).length = m0.length := by
  induction l with
  | nil => rfl
  | cons i l ih =>
    show (match leads m (.ptr i 0) with | true => (mark l m m0).set i (some ⟨true, .obj 0 {} anyI⟩) | false => mark l m m0).length = _
    split
    · rw [List.length_set]; exact ih
    · exact ih
theorem mark_ok {l : List Nat} {m m0 : Mem} (h : Mem.ok m0 = true) : Mem.ok (mark l m m0) = true := by
  induction l with
  | nil => exact h
  | cons i l ih =>
    show Mem.ok (match leads m (.ptr i 0) with | true => (mark l m m0).set i (some ⟨true, .obj 0 {} anyI⟩) | false => mark l m m0) = _
    split
    · unfold Mem.ok at *
      rw [List.length_set, List.all_eq_true]
      rw [List.all_eq_true] at ih
      intro r hr
      rcases List.mem_or_eq_of_mem_set hr with h9 | rfl
      · exact ih r h9
      · rfl
    · exact ih
theorem Rel.marked {e : Env} {w0 : World} {W : Nat → Prop} {m m0 : Mem} {w w' : World} (h : Rel e w0 W m w) (h0 : Rel e w0 W m0 w') (l : List Nat) : Rel e w0 W (Sx.mark l m m0) w' := by
  induction l with
  | nil => exact h0
  | cons i l ih =>
    show Rel e w0 W (match leads m (.ptr i 0) with | true => (Sx.mark l m m0).set i (some ⟨true, .obj 0 {} anyI⟩) | false => Sx.mark l m m0) w'
    split
    · rename_i hl
      obtain ⟨a, ha⟩ := leads_env h hl
      exact ih.there ha
    · exact ih
theorem runHeld_ok {cx : Cx P} {all : Array Oper} {Q' : Exit → Act → World → Prop} {K : St → Prop} {m0 m1 : Mem} {n1 : Nat} (hle : m0.length ≤ n1) (hok : Mem.ok m0 = true) (hle1 : m1.length ≤ n1) (hok1 : Mem.ok m1 = true) (hm1 : ∀ w, Rel e w0 W m0 w → Rel e w0 W m1 w) (hsel : Region.noSelect all = true) (hn0 : cx.n0 ≤ n1) (he0 : ∀ i, i < cx.n0 → e i = e0 i)
    (hK : ∀ S' a' w', K S' → Sim e0 cx.n0 w0 W S' a' w' → Q' .normal a' w') : ∀ (l : Sched) (n : Nat) (listed : Array Bool) (S : St) (a : Act) (w : World),
    heldB all n l listed = true → runHeld cx all n1 m0 m1 K l S → Sim e n1 w0 W S a w → Rel e w0 W m0 w → wpAnyH P .any all (NoPan Q') (Rel e w0 W m0) n listed a w
  | .done, n, listed, S, a, w, hB, hr, hs, hS => by
    obtain ⟨e', h1, h2, h3, h4⟩ := hs
    have hB : (Region.ready .any all listed).isEmpty = true := by cases n <;> exact hB
    exact wpAnyH_done (Q := NoPan Q') (by simpa using hB) (show NoPan Q' .normal a w from hK S a w hr ⟨e', h1, h2, fun i hi => (h3 i (Nat.lt_of_lt_of_le hi hn0)).trans (he0 i hi), Nat.le_trans hn0 h4⟩) n
  | .take i l, 0, listed, S, a, w, hB, hr, hs, hS => by cases hB
  | .take i l, n + 1, listed, S, a, w, hB, hr, hs, hS => by
    simp only [heldB, Bool.and_eq_true] at hB
    obtain ⟨⟨hb1, hb2⟩, hb3⟩ := hB
    simp only [runHeld_take] at hr
    split at hr
    · exact hr.elim
    rename_i o ho
    obtain ⟨e', h1, h2, h3, h4⟩ := hs
    have back : ∀ w, Rel e w0 W m0 w → Rel e' w0 W m1 w := fun w h => (hm1 w h).agree (fun i hi => h3 i (Nat.lt_of_lt_of_le hi hle1)) hok1
    rcases stepG_ok hr h2 with ⟨hw, S1, hm, ht1, hrun⟩ | ⟨hw, S1, hm, ht1, hk⟩
    · obtain ⟨v, hv, hc, hk⟩ := runStill_ok (w0 := w0) (W := W) hrun ht1
      refine wpAnyH_take ho hsel hb2 hb1 (fun c a w h => h.elim) (.inl ⟨hw, fun w' hw' => hv w' (back w' hw')⟩) hS ?_
      exact runHeld_ok hle hok hle1 hok1 hm1 hsel hn0 he0 hK l n _ _ _ _ hb3 hk ⟨e', by rw [St.put_m, hm]; exact h1, ht1.put hc rfl, h3, by rw [St.put_m, hm]; exact h4⟩ hS
    · refine wpAnyH_take ho hsel hb2 hb1 (fun c a w h => h.elim) (.inr ⟨hw, rfl⟩) hS ?_
      exact runHeld_ok hle hok hle1 hok1 hm1 hsel hn0 he0 hK l n _ _ _ _ hb3 hk ⟨e', by rw [hm]; exact h1, ht1, h3, by rw [hm]; exact h4⟩ hS
  | .one i l, 0, listed, S, a, w, hB, hr, hs, hS => by cases hB
  | .one i l, n + 1, listed, S, a, w, hB, hr, hs, hS => by
    simp only [heldB, Bool.and_eq_true, decide_eq_true_eq] at hB
    refine wpAnyH_all hB.1 (by simp) fun j hj => ?_
    obtain rfl := List.mem_singleton.1 hj
    exact actH_ok hle hok hr hs fun S' a' w' h1 h2 h3 => runHeld_ok hle hok hle1 hok1 hm1 hsel hn0 he0 hK l n _ _ _ _ hB.2 h1 h2 h3
  | .two i l j r, 0, listed, S, a, w, hB, hr, hs, hS => by cases hB
  | .two i l j r, n + 1, listed, S, a, w, hB, hr, hs, hS => by
    simp only [heldB, Bool.and_eq_true, decide_eq_true_eq] at hB
    refine wpAnyH_all hB.1.1 (by simp) fun q hq => ?_
    rcases List.mem_cons.1 hq with rfl | hq
    · exact actH_ok hle hok hr.1 hs fun S' a' w' h1 h2 h3 => runHeld_ok hle hok hle1 hok1 hm1 hsel hn0 he0 hK l n _ _ _ _ hB.1.2 h1 h2 h3
    · obtain rfl := List.mem_singleton.1 hq
      exact actH_ok hle hok hr.2 hs fun S' a' w' h1 h2 h3 => runHeld_ok hle hok hle1 hok1 hm1 hsel hn0 he0 hK r n _ _ _ _ hB.2 h1 h2 h3
  | .three i l j r k u, 0, listed, S, a, w, hB, hr, hs, hS => by cases hB
  | .three i l j r k u, n + 1, listed, S, a, w, hB, hr, hs, hS => by
    simp only [heldB, Bool.and_eq_true, decide_eq_true_eq] at hB
    refine wpAnyH_all hB.1.1.1 (by simp) fun q hq => ?_
    rcases List.mem_cons.1 hq with rfl | hq
    · exact actH_ok hle hok hr.1 hs fun S' a' w' h1 h2 h3 => runHeld_ok hle hok hle1 hok1 hm1 hsel hn0 he0 hK l n _ _ _ _ hB.1.1.2 h1 h2 h3
    · rcases List.mem_cons.1 hq with rfl | hq
      · exact actH_ok hle hok hr.2.1 hs fun S' a' w' h1 h2 h3 => runHeld_ok hle hok hle1 hok1 hm1 hsel hn0 he0 hK r n _ _ _ _ hB.1.2 h1 h2 h3
      · obtain rfl := List.mem_singleton.1 hq
        exact actH_ok hle hok hr.2.2 hs fun S' a' w' h1 h2 h3 => runHeld_ok hle hok hle1 hok1 hm1 hsel hn0 he0 hK u n _ _ _ _ hB.2 h1 h2 h3

theorem Rel.nil (h : Rel e w0 W S.m w) : Rel e w0 W [] w :=
  ⟨h.fr, fun i r hi => by simp at hi, fun i j ri rj a b _ hi => by simp at hi, fun i r a hi => by simp at hi, Objs.empty fun i x I hi => by obtain ⟨_, hi⟩ := hi; simp at hi, .none fun i t x I hi => by simp at hi⟩

end
end Go.Sx

/-
  Part 12: code is sound; functions.
-/
namespace Go.Sx
open Go.RowKit

section
variable {P : Program} {e e0 : Env} {w0 : World} {W : Nat → Prop} {w : World} {S : St} {a : Act}

theorem idB_ok : ∀ {n j : Nat} {l : List Nat}, idB n j l = true → ∀ i, i < n → l[i]? = some (j + i)
  | 0, _, _, _, i, hi => by omega
  | n + 1, j, x :: l, h, i, hi => by
    simp only [idB, Bool.and_eq_true] at h
    have hx := Nat.beq_iff.1 h.1
    cases i with
    | zero => simp [hx]
    | succ i =>
      have := idB_ok h.2 i (by omega)
      simp only [List.getElem?_cons_succ, this]; congr 1; omega
  | n + 1, j, [], h, _, _ => by cases h

theorem subSlots_get {ρ : List Nat} {t : Slots} : ∀ {r : Slots} {l : List Prop}, subSlots ρ t r = some l → Holds l → ∀ (k : Nat) (v : SV), r.get k = some v → ∃ u l', t.get k = some u ∧ eqSV (v.ren ρ) u = some l' ∧ Holds l'
  | [], _, _, _, k, v, hv => by cases hv
  | (k', v') :: r, l, h, hl, k, v, hv => by
    simp only [subSlots] at h
    split at h
    · rename_i u hu
      obtain ⟨x, y, h1, h2, rfl⟩ := app2_some h
      obtain ⟨h3, h4⟩ := holds_app hl
      simp only [Slots.get] at hv
      split at hv
      · rename_i hk
        have := Nat.beq_iff.1 hk
        subst this
        cases hv
        exact ⟨u, x, hu, h1, h3⟩
      · exact subSlots_get h2 h4 k v hv
    · cases h

theorem Sim.sub {n0 : Nat} {T : St} {ρ : List Nat} {l : List Prop} (hs : Sim e0 n0 w0 W S a w) (h : subSt ρ n0 S T = some l) (hl : Holds l) : Sim e0 n0 w0 W T a w := by
  obtain ⟨e, hrel, ht, he, hn⟩ := hs
  unfold subSt at h
  split at h
  · rename_i h1 h2 h3 h4 h5
    have h1 := Nat.beq_iff.1 h1
    have h3 := Nat.ble_iff.1 h3
    have h5 := Nat.ble_iff.1 h5
    obtain ⟨x, y, h6, h7, rfl⟩ := app2_some h
    obtain ⟨h8, h9⟩ := holds_app hl
    refine ⟨renE e ρ, hrel.sub h7 h9 h3 h4, ⟨ht.size.trans h1, ht.defers, fun i v hi => ?_⟩, fun i hi => ?_, h5⟩
    · obtain ⟨u, l', h10, h11, h12⟩ := subSlots_get h6 h8 i v hi
      rw [ht.get i u h10, ← eqSV_den h11 h12, SV.den_ren]
    · have := idB_ok h2 i hi
      rw [Nat.zero_add] at this
      simp only [renE, rn, List.getD, this, Option.getD_some]
      exact he i hi
  · cases h

theorem ghS_sim {n0 : Nat} {gs : List GC} {l : List Prop} {S1 : St} (hs : Sim e0 n0 w0 W S a w) (hg : ghS gs S = some (l, S1)) (hl : Holds l) : Sim e0 n0 w0 W S1 a w := by
  unfold ghS at hg
  split at hg
  · cases hg; exact hs
  · split at hg
    · rename_i l' v' m' hok hg'
      cases hg
      obtain ⟨e, hrel, ht, he, hn⟩ := hs
      obtain ⟨e', h1, h2, h3, _⟩ := ghost_ok hrel hg' hl
      have hok2 : Slots.ok S.m.length S.t = true := by
        simp only [St.ok, Bool.and_eq_true] at hok
        exact hok.1
      exact ⟨e', h2, ht.ext hok2 h1 m', fun i hi => by rw [h1 i (by omega), he i hi], by show n0 ≤ m'.length; omega⟩
    · cases hg

theorem nil1_sim {n0 k st : Nat} {cols : List Col} (hs : Sim e0 n0 w0 W S a w) : Sim e0 n0 w0 W (nil1 k st cols S) a w := by
  unfold nil1
  split
  · rename_i hk
    split
    · rename_i hok
      obtain ⟨e, hrel, ht, he, hn⟩ := hs
      have hok := hok
      simp only [St.ok, Bool.and_eq_true] at hok
      have hag : ∀ i, i < S.m.length → (fun i => if i < S.m.length then e i else none) i = e i := fun i hi => if_pos hi
      have h1 : Rel (fun i => if i < S.m.length then e i else none) w0 W (S.m ++ [some ⟨true, .tab 0 cols⟩]) w :=
        hrel.push (A := none) hag hok.2 (if_neg (Nat.lt_irrefl _)) ⟨fun j v hv => by simp [Con.cell] at hv, fun es k hm => by cases hm⟩ (fun hs => absurd hs.1 (Nat.lt_irrefl 0)) (fun hs => absurd hs.1 (Nat.lt_irrefl 0))
          (hrel.obj.imp fun F hF => ⟨hF, fun _ hs => absurd hs.1 (Nat.lt_irrefl 0)⟩)
      have h2 := ht.ext hok.1 hag (S.m ++ [some ⟨true, .tab 0 cols⟩])
      refine ⟨_, h1, ⟨h2.size, h2.defers, fun i v hi => ?_⟩, fun i hi => (hag i (by omega)).trans (he i hi), by simp; omega⟩
      simp only [Slots.get] at hi
      split at hi
      · rename_i hki
        have := Nat.beq_iff.1 hki
        subst this
        cases hi
        rw [ht.get k _ hk]
        simp [SV.den, SV1.den, SA.den, at_]
      · exact h2.get i v hi
    · exact hs
  · exact hs
theorem nilS_sim {n0 : Nat} : ∀ {l : List (Nat × Nat × List Col)} {S : St}, Sim e0 n0 w0 W S a w → Sim e0 n0 w0 W (nilS l S) a w
  | [], _, hs => hs
  | (_, _, _) :: l, _, hs => nilS_sim (l := l) (nil1_sim hs)

theorem enter_sound {la : LA} {n0 : Nat} {C : la.ι → Prop} (h : enter la n0 S C) (hs : Sim e0 n0 w0 W S a w) : ∃ i, la.inv i ∧ C i ∧ Sim e0 n0 w0 W (la.T i) a w := by
  obtain ⟨i, hi, h⟩ := h
  rw [fSt_eq] at h
  have hs' := nilS_sim (l := la.nl) hs
  have fin : ∀ {S1 : St}, Sim e0 n0 w0 W S1 a w → enterS la n0 C i S1 → ∃ i, la.inv i ∧ C i ∧ Sim e0 n0 w0 W (la.T i) a w := by
    intro S1 h1 hk
    unfold enterS at hk
    split at hk
    · rename_i l hl
      exact ⟨i, hi, hk.2, h1.sub hl (allP_iff.1 hk.1).1⟩
    · exact hk.elim
  unfold ghE at h
  split at h
  · exact fin hs' h
  · rename_i g gs hgs
    split at h
    · rename_i hok
      obtain ⟨l, v', m', hg, hl, hk⟩ := ghostF_ok h
      refine fin (ghS_sim hs' (gs := g :: gs) (l := l) ?_ hl) hk
      simp only [ghS, hok, hg]
    · exact h.elim

/-- what is said at an exit, and what is asked there -/
def Okay (e0 : Env) (n0 : Nat) (w0 : World) (W : Nat → Prop) (Q : Exit → St → Prop) (Q' : Exit → Act → World → Prop) : Prop :=
  ∀ ex S' a' w', Q ex S' → Sim e0 n0 w0 W S' a' w' → Q' ex a' w'

theorem exec_sound (hm : P.follows .mixedOrders = true) (cx : Cx P) : ∀ (c : Code) (Q : Exit → St → Prop) (S : St) (a : Act) (w : World) (Q' : Exit → Act → World → Prop),
    exec cx c Q S → Sim e0 cx.n0 w0 W S a w → Okay e0 cx.n0 w0 W Q Q' → c.wp P Q' a w := by
  intro c
  induction c with
  | skip => intro Q S a w Q' h hs hq; exact wp_skip (hq _ _ _ _ h hs)
  | label l => intro Q S a w Q' h hs hq; exact wp_label (hq _ _ _ _ h hs)
  | ret => intro Q S a w Q' h hs hq; exact wp_ret (hq _ _ _ _ h hs)
  | exit i => intro Q S a w Q' h hs hq; exact wp_exit (hq _ _ _ _ h hs)
  | seq x y ihx ihy =>
    intro Q S a w Q' h hs hq
    simp only [exec_seq] at h
    refine wp_seq ?_
    split at h
    · split at h
      · refine ihx _ S a w _ h hs ?_
        intro ex S' a' w' h' hs'
        cases ex with
        | normal => exact ihy Q S' a' w' Q' h' hs' hq
        | _ => exact hq _ _ _ _ h' hs'
      · split at h
        · rename_i k k2 f _ _ _ n n2 _ _
          obtain ⟨h1, h2⟩ := h
          refine ihx _ S a w _ h1 hs ?_
          intro ex S' a' w' h' hs'
          cases ex with
          | normal =>
            obtain ⟨i, hi, _, hs2⟩ := enter_sound h' hs'
            exact ihy Q ((f n n2).T i) a' w' Q' (h2 i hi) hs2 hq
          | _ => exact hq _ _ _ _ h' hs'
        · exact h.elim
    · rename_i la _
      obtain ⟨h1, h2⟩ := h
      refine ihx _ S a w _ h1 hs ?_
      intro ex S' a' w' h' hs'
      cases ex with
      | normal =>
        obtain ⟨i, hi, _, hs2⟩ := enter_sound h' hs'
        exact ihy Q (la.T i) a' w' Q' (h2 i hi) hs2 hq
      | _ => exact hq _ _ _ _ h' hs'
  | cond c x y ihx ihy =>
    intro Q S a w Q' h hs hq
    simp only [exec_cond] at h
    split at h
    · rename_i cv hc
      obtain ⟨b, hb, h1, h2⟩ := br_iff h
      have hs0 := hs
      obtain ⟨e, hrel, ht, he, hn⟩ := hs
      have hce := evOk ht hc
      simp only [SV.den, SV1.den, boolOf_den hb] at hce
      cases b with
      | true => exact wp_cond_true hce (ihx Q S a w Q' (h1 rfl) hs0 hq)
      | false => exact wp_cond_false hce (ihy Q S a w Q' (h2 rfl) hs0 hq)
    · exact h.elim
  | block id c ih =>
    intro Q S a w Q' h hs hq
    simp only [exec_block] at h
    refine wp_block (ih _ S a w _ h hs ?_)
    intro ex S' a' w' h' hs'
    cases ex with
    | exit i =>
      simp only at h'
      simp only [Exit.inBlock]
      split at h'
      · rename_i hi
        rw [if_pos (Nat.beq_iff.1 hi)]
        exact hq _ _ _ _ h' hs'
      · rename_i hi
        rw [if_neg (fun hh => by rw [hh] at hi; simp at hi)]
        exact hq _ _ _ _ h' hs'
    | _ => exact hq _ _ _ _ h' hs'
  | loop c ih =>
    intro Q S a w Q' h hs hq
    simp only [exec_loop] at h
    split at h
    · exact h.elim
    · rename_i la _
      obtain ⟨h1, h2⟩ := h
      obtain ⟨i, hi, _, hs1⟩ := enter_sound h1 hs
      have key : ∀ (k : Nat) (i : la.ι) (a : Act) (w : World), la.μ i < k → la.inv i → Sim e0 cx.n0 w0 W (la.T i) a w → Code.rounds P c Q' k a w := by
        intro k
        induction k with
        | zero => intro i a w hk; omega
        | succ k ihk =>
          intro i a w hk hi hs
          show c.wp P (Exit.then (Code.rounds P c Q' k) Q') a w
          refine ih _ (la.T i) a w _ (h2 i hi) hs ?_
          intro ex S' a' w' h' hs'
          cases ex with
          | normal =>
            obtain ⟨i', hi', hlt, hs2⟩ := enter_sound h' hs'
            exact ihk i' a' w' (by omega) hi' hs2
          | _ => exact hq _ _ _ _ h' hs'
      exact wp_loop_rounds (la.μ i + 1) (key _ i a w (by omega) hi hs1)
    · rename_i n _
      have key : ∀ (n : Nat) (S : St) (a : Act) (w : World), rounds (exec cx c) Q n S → Sim e0 cx.n0 w0 W S a w → Code.rounds P c Q' n a w := by
        intro n
        induction n with
        | zero => intro S a w h; exact h.elim
        | succ n ihn =>
          intro S a w h hs
          show c.wp P (Exit.then (Code.rounds P c Q' n) Q') a w
          refine ih _ S a w _ h hs ?_
          intro ex S' a' w' h' hs'
          cases ex with
          | normal => exact ihn S' a' w' h' hs'
          | _ => exact hq _ _ _ _ h' hs'
      exact wp_loop_rounds n (key n S a w h hs)
    · split at h
      rotate_left
      · exact h.elim
      rename_i f _ _ n _
      generalize f n = la at h
      obtain ⟨h1, h2⟩ := h
      obtain ⟨i, hi, _, hs1⟩ := enter_sound h1 hs
      have key : ∀ (k : Nat) (i : la.ι) (a : Act) (w : World), la.μ i < k → la.inv i → Sim e0 cx.n0 w0 W (la.T i) a w → Code.rounds P c Q' k a w := by
        intro k
        induction k with
        | zero => intro i a w hk; omega
        | succ k ihk =>
          intro i a w hk hi hs
          show c.wp P (Exit.then (Code.rounds P c Q' k) Q') a w
          refine ih _ (la.T i) a w _ (h2 i hi) hs ?_
          intro ex S' a' w' h' hs'
          cases ex with
          | normal =>
            obtain ⟨i', hi', hlt, hs2⟩ := enter_sound h' hs'
            exact ihk i' a' w' (by omega) hi' hs2
          | _ => exact hq _ _ _ _ h' hs'
      exact wp_loop_rounds (la.μ i + 1) (key _ i a w (by omega) hi hs1)
  | region id ops draw =>
    intro Q S a w Q' h hs hq
    simp only [exec_region, fSt_eq, fMem_eq] at h
    split at h
    · refine wp_region_list ?_
      exact runOps_norm (fun S' a' w' h' hs' => hq _ _ _ _ h' hs') ops.toList S a w h hs
    · split at h
      · rename_i q l _
        obtain ⟨hB, h⟩ := h
        split at h
        · rename_i hn0 hok
          have hn0 := Nat.ble_iff.1 hn0
          simp only [HeldOK, Bool.and_eq_true] at hB
          obtain ⟨hB1, hB3⟩ := hB
          obtain ⟨e, hrel, ht, he, hn⟩ := hs
          refine Code.wp_mono (Q := NoPan Q') (fun ex a w hh => by cases ex <;> first | exact hh | exact (hh : False).elim) ?_
          cases q with
          | true =>
            refine wp_region_held (S := Rel e w0 W (forget (cx.lose id) S.m)) hm ?_
            exact runHeld_ok (Nat.le_of_eq (forget_len _ _)) (forget_ok _ hok) (Nat.le_of_eq ((mark_len _ _ _).trans (forget_len _ _))) (mark_ok (forget_ok _ hok)) (fun w' hw' => hrel.marked hw' _) hB1 hn0 he (fun S' a' w' h' hs' => hq _ _ _ _ h' hs') l _ _ S a _ hB3 h ⟨e, hrel.drew, ht, fun _ _ => rfl, Nat.le_refl _⟩ (hrel.drew.forget _)
          | false =>
            refine wp_region_held (S := Rel e w0 W []) hm ?_
            exact runHeld_ok (Nat.zero_le _) rfl (Nat.zero_le _) rfl (fun _ h => h) hB1 hn0 he (fun S' a' w' h' hs' => hq _ _ _ _ h' hs') l _ _ S a _ hB3 h ⟨e, hrel.drew, ht, fun _ _ => rfl, Nat.le_refl _⟩ (Rel.nil hrel.drew)
        · exact h.elim
      · · split at h
          · obtain ⟨hB, h⟩ := h
            obtain ⟨e, hrel, ht, he, hn⟩ := hs
            refine wp_region_quiet (C := Rel e w0 W S.m) hm hB hrel.drew ?_
            refine runOps_quiet (fun S' a' h' hm' ht' => ?_) ops.toList S a h rfl ht
            intro w' hw'
            exact hq _ _ _ _ h' ⟨e, by rw [hm']; exact hw', ht', he, by rw [hm']; exact hn⟩
          · obtain ⟨hB, h⟩ := h
            obtain ⟨e, hrel, ht, he, hn⟩ := hs
            have hops : ops = ops.toList.toArray := by simp
            rw [hops]
            refine wp_region_still_tail (headLen ops.toList) hm (by rw [← hops]; exact hB) ?_
            refine runOps_still (m := S.m) (cx := cx) (K := fun S' => runOps .norm cx ops (ops.toList.drop (headLen ops.toList)) S' (Q .normal)) hrel.drew (fun S' a' h' hm' ht' => ?_) _ S a (by rw [← hops]; exact h) rfl ht
            exact runOps_norm (cx := cx) (fun S' a' w' h' hs' => hq _ _ _ _ h' hs') _ S' a' _ (by rw [← hops]; exact h') ⟨e, by rw [hm']; exact hrel.drew, ht', he, by rw [hm']; exact hn⟩
  | rangeFunc f ps x y _ _ => intro Q S a w Q' h; exact h.elim
  | scope c _ => intro Q S a w Q' h; exact h.elim
  | goto l => intro Q S a w Q' h; exact h.elim
  | refuse s => intro Q S a w Q' h; exact h.elim

end
end Go.Sx

/-
  Part 13: a function's contract out of its body, carried out.
-/
namespace Go.Sx
open Go.RowKit

def slots0 : Nat → List SV → Slots
  | _, [] => []
  | i, v :: l => (i, v) :: slots0 (i + 1) l

def St0 (n : Nat) (args : List SV) (m : Mem) : St := ⟨n, slots0 0 args, m⟩

section
variable {P : Program}

def resOf (P : Program) (S : St) : List ResultVar → Option (List SV1)
  | [] => some []
  | .tmp t :: l => (match S.t.get t, resOf P S l with | some (.one v), some r => some (v :: r) | _, _ => none)
  | .cell t ty :: l => (match S.t.get t, resOf P S l with
    | some (.one (.a p)), some r => (match rdLoad P S.m ty p with | .val none (.one v) => some (v :: r) | _ => none)
    | _, _ => none)

def retOf (P : Program) (S : St) (rs : List ResultVar) : Option SV :=
  match resOf P S rs with
  | some [v] => some (.one v)
  | some l => some (.tup l)
  | none => none

/-- the body's end -/
def fin (P : Program) (fn : Func) (post : SV → Mem → Prop) (ex : Exit) (S : St) : Prop :=
  match ex with
  | .normal | .ret => (match retOf P S fn.results.toList with
    | some v => post v S.m
    | none => False)
  | _ => False

def body? (fn : Func) : Code := match fn.body with | some c => c | none => .refuse ""

/-- a function's body comes to 'post' -/
def Runs (cx : Cx P) (fn : Func) (args : List SV) (m : Mem) (post : SV → Mem → Prop) : Prop :=
  match Nat.ble args.length fn.ntmps, fn.body with
  | true, some c => exec cx c (fin P fn post) (St0 fn.ntmps args m)
  | _, _ => False

variable {e : Env} {w0 : World} {W : Nat → Prop} {w : World} {S : St} {a : Act}

theorem slots0_get {i : Nat} : ∀ {l : List SV} {j : Nat} {v : SV}, (slots0 i l).get j = some v → i ≤ j ∧ l[j - i]? = some v
  | [], _, _, h => by cases h
  | x :: l, j, v, h => by
    simp only [slots0, Slots.get] at h
    split at h
    · rename_i hk
      have := Nat.beq_iff.1 hk
      subst this
      cases h
      exact ⟨Nat.le_refl _, by simp⟩
    · rename_i hk
      have hne : i ≠ j := fun hh => by rw [hh] at hk; simp at hk
      obtain ⟨h1, h2⟩ := slots0_get (i := i + 1) h
      exact ⟨by omega, by rw [show j - i = (j - (i + 1)) + 1 by omega]; simpa using h2⟩

theorem relT0 {n : Nat} {args : List SV} {m : Mem} (hn : args.length ≤ n) : RelT e (St0 n args m) { tmps := (args.map (SV.den e)).toArray ++ Array.replicate (n - (args.map (SV.den e)).toArray.size) undef, defers := [] } := by
  refine ⟨by simp [St0]; omega, rfl, fun i v hi => ?_⟩
  obtain ⟨_, h⟩ := slots0_get hi
  rw [Nat.sub_zero] at h
  have hl : i < args.length := (List.getElem?_eq_some_iff.1 h).1
  rw [Array.getElem?_append_left (by simpa using hl)]
  simp [h]

def rdRes (tmps : Array Value) : ResultVar → Sem Value
  | .tmp t => pure (tmps.getD t undef)
  | .cell p t => do loadVar t (← asAddr (tmps.getD p undef))

theorem resOf_ok (ht : RelT e S a) (hrel : Rel e w0 W S.m w) : ∀ {rs : List ResultVar} {l : List SV1}, resOf P S rs = some l →
    (rs.mapM (rdRes a.tmps)).run P w = .ok (l.map (SV1.den e)) w
  | [], _, h => by cases h; simp
  | .tmp t :: rs, l, h => by
    simp only [resOf] at h
    split at h
    · rename_i v r hv hr
      cases h
      have ih := resOf_ok ht hrel hr
      have hg := ht.get t _ hv
      rw [List.mapM_cons]
      simp only [Sem.run_bind, rdRes, Sem.run_pure, Result.andThen_ok, ih]
      simp [hg, SV.den]
    · cases h
  | .cell p ty :: rs, l, h => by
    simp only [resOf] at h
    split at h
    · rename_i q r hv hr
      split at h
      · rename_i v hl
        cases h
        have ih := resOf_ok ht hrel hr
        have hg := ht.get p _ hv
        have hload := rdLoad_ok hrel hl trivial
        have hg' : a.tmps.getD p undef = q.den e := by simp [hg, SV.den, SV1.den]
        rw [List.mapM_cons]
        simp only [Sem.run_bind, rdRes, Sem.run_pure, Result.andThen_ok, ih, hg']
        simp only [Instr.loadAt, Sem.run_bind] at hload
        cases hq : q.den e with
        | pointer A =>
          rw [hq] at hload
          cases A with
          | none => simp [Instr.sureAddr] at hload
          | some A =>
            simp only [Instr.sureAddr, Sem.run_pure, Result.andThen_ok] at hload
            simp only [asAddr, Sem.run_pure, Result.andThen_ok, hload]
            simp only [ih, Result.andThen_ok]
            rfl
        | _ => rw [hq] at hload; simp [Instr.sureAddr] at hload
      · cases h
    · cases h

theorem retOf_ok {fn : Func} (ht : RelT e S a) (hrel : Rel e w0 W S.m w) {v : SV} (h : retOf P S fn.results.toList = some v) : (results fn a.tmps).run P w = .ok (v.den e) w := by
  unfold retOf at h
  have key : ∀ {l : List SV1}, resOf P S fn.results.toList = some l → (results fn a.tmps).run P w = .ok (if h : (l.map (SV1.den e)).toArray.size = 1 then (l.map (SV1.den e)).toArray[0] else .tuple (l.map (SV1.den e)).toArray) w := by
    intro l hl
    have := resOf_ok (P := P) ht hrel hl
    have hrs : results fn a.tmps = (do let vs ← fn.results.mapM (rdRes a.tmps); pure (if h : vs.size = 1 then vs[0] else .tuple vs)) := by
      unfold results
      have hfun : (rdRes a.tmps) = (fun | .tmp t => (pure (a.tmps.getD t undef) : Sem Value) | .cell p t => do loadVar t (← asAddr (a.tmps.getD p undef))) := by
        funext r
        cases r <;> rfl
      rw [hfun]
      rfl
    rw [hrs, Array.mapM_eq_mapM_toList]
    simp only [Sem.run_bind, Sem.run_map]
    rw [this]
    simp
  split at h
  · rename_i u hu
    cases h
    rw [key hu]; rfl
  · rename_i l hne hl
    cases h
    rw [key hl]
    rw [dif_neg]
    · rfl
    · intro hs
      simp at hs
      match l, hs with
      | [u], _ => exact hne u rfl
  · cases h

theorem runs_sound' (hm : P.follows .mixedOrders = true) {f : FuncId} {fn : Func} (hf : P.funcs[f]? = some fn) {cx : Cx P} {args : List SV} {m : Mem} {post : SV → Mem → Prop} (h : Runs cx fn args m post) (hrel : Rel e w0 W m w) (hn : cx.n0 ≤ m.length) :
    Calls P f (args.map (SV.den e)).toArray w fun r w' => ∃ v m' e', post v m' ∧ r = .returned (v.den e') ∧ Rel e' w0 W m' w' ∧ (∀ i, i < cx.n0 → e' i = e i) ∧ cx.n0 ≤ m'.length := by
  unfold Runs at h
  split at h
  · rename_i c hle hb
    have hle := Nat.ble_iff.1 hle
    refine calls_of_wp hf hb (exec_sound (e0 := e) (w0 := w0) (W := W) hm cx c _ _ _ _ _ h ⟨e, hrel, relT0 hle, fun _ _ => rfl, hn⟩ ?_)
    intro ex S' a' w' h' hs'
    obtain ⟨e', hrel', ht', he', hn'⟩ := hs'
    have key : (match retOf P S' fn.results.toList with | some v => post v S'.m | none => False) → a'.defers = [] ∧ ∃ v, (results fn a'.tmps).run P w' = .ok v w' ∧ ∃ v_1 m' e', post v_1 m' ∧ Ending.returned v = .returned (v_1.den e') ∧ Rel e' w0 W m' w' ∧ (∀ i, i < cx.n0 → e' i = e i) ∧ cx.n0 ≤ m'.length := by
      intro hk
      split at hk
      · rename_i v hv
        exact ⟨ht'.defers, _, retOf_ok ht' hrel' hv, v, S'.m, e', hk, rfl, hrel', he', hn'⟩
      · exact hk.elim
    cases ex with
    | normal => exact key h'
    | ret => exact key h'
    | _ => exact h'.elim
  · exact h.elim

theorem runs_sound (hm : P.follows .mixedOrders = true) {f : FuncId} {fn : Func} (hf : P.funcs[f]? = some fn) {cx : Cx P} {args : List SV} {m : Mem} {post : SV → Mem → Prop} (h : Runs cx fn args m post) (hrel : Rel e w0 W m w) (hn : cx.n0 ≤ m.length) :
    Calls P f (args.map (SV.den e)).toArray w fun r w' => ∃ v m' e', post v m' ∧ r = .returned (v.den e') ∧ Rel e' w0 W m' w' ∧ ∀ i, i < cx.n0 → e' i = e i :=
  (runs_sound' hm hf h hrel hn).mono fun _ _ ⟨v, m', e', h1, h2, h3, h4, _⟩ => ⟨v, m', e', h1, h2, h3, h4⟩
noncomputable def ghosted (gs : SV → Mem → List GC) (v : SV) (m : Mem) (K : SV → Mem → Prop) : Prop := ghostF (gs v m) K v m
/-- .. what is left being said otherwise -/
theorem runs_ghosted (hm : P.follows .mixedOrders = true) {f : FuncId} {fn : Func} (hf : P.funcs[f]? = some fn) {cx : Cx P} {args : List SV} {m : Mem} {gs : SV → Mem → List GC} {post : SV → Mem → Prop} (h : Runs cx fn args m fun v m' => ghosted gs v m' post) (hrel : Rel e w0 W m w) (hn : cx.n0 ≤ m.length) :
    Calls P f (args.map (SV.den e)).toArray w fun r w' => ∃ v m' e', post v m' ∧ r = .returned (v.den e') ∧ Rel e' w0 W m' w' ∧ ∀ i, i < cx.n0 → e' i = e i := by
  refine (runs_sound' hm hf h hrel hn).mono fun r w' ⟨v, m', e', h1, h2, h3, h4, h5⟩ => ?_
  obtain ⟨l, v2, m2, hg, h6, h7⟩ := ghostF_ok h1
  obtain ⟨e2, h8, h9, h10, h11⟩ := ghost_ok h3 hg h6
  exact ⟨v2, m2, e2, h7, by rw [h2, h11], h9, fun i hi => by rw [h8 i (by omega), h4 i hi]⟩

/-- A function that is carried out where it is called, by its body. -/
theorem inl_sound (hm : P.follows .mixedOrders = true) {f : FuncId} {fn : Func} (hf : P.funcs[f]? = some fn) (cxf : List SV → Mem → Cx P) (hcx : ∀ args m, (cxf args m).n0 = m.length) (args : List SV) (m : Mem) (K : SV → Mem → Prop) (h : Runs (cxf args m) fn args m K)
    (e : Env) (w0 : World) (W : Nat → Prop) (w : World) (hrel : Rel e w0 W m w) : Calls P f (args.map (SV.den e)).toArray w fun r w' => ∃ v m', K v m' ∧ After e m.length w0 W v m' r w' :=
  (runs_sound hm hf h hrel (by rw [hcx]; exact Nat.le_refl _)).mono fun r w' ⟨v, m', e', h1, h2, h3, h4⟩ => ⟨v, m', h1, e', fun i hi => h4 i (by rw [hcx]; exact hi), h2, h3⟩

/-! ### Functions that leave known memory as it is -/

/-- claimed: the result r, by renaming ρ -/
def isRes (r : SV) (v : SV) : Prop :=
  match eqSV r v with
  | some l => allP l True
  | none => False

theorem isRes_den {r v : SV} (h : isRes r v) : r.den e = v.den e := by
  unfold isRes at h
  split at h
  · rename_i l hl
    exact eqSV_den hl (allP_iff.1 h).1
  · exact h.elim

theorem rel_nil (e : Env) (w : World) : Rel e w (fun _ => False) [] w :=
  ⟨Fr.refl _ _, fun i r hi => by simp at hi, fun i j ri rj a b _ hi => by simp at hi, fun i r a hi => by simp at hi, Objs.empty fun i x I hi => by obtain ⟨_, hi⟩ := hi; simp at hi, .none fun i t x I hi => by simp at hi⟩

/-- A function of numbers alone. -/
theorem pure_sound (hm : P.follows .mixedOrders = true) {f : FuncId} {fn : Func} (hf : P.funcs[f]? = some fn) {cx : Cx P} (hn0 : cx.n0 = 0) {args : List SV} {r : SV} (hargs : args.all (SV.ok 0) = true) (hr : r.ok 0 = true) (h : Runs cx fn args [] fun v _ => isRes r v)
    (e : Env) (w0 : World) (W : Nat → Prop) (w : World) {m : Mem} (hrel : Rel e w0 W m w) : Calls P f (args.map (SV.den e)).toArray w fun r' w' => r' = .returned (r.den e) ∧ Rel e w0 W m w' := by
  refine (runs_sound hm hf h (rel_nil e w) (by simp [hn0])).mono fun r' w' ⟨v, m', e', h1, h2, h3, _⟩ => ⟨?_, hrel.same h3.fr⟩
  rw [h2, ← isRes_den (e := e') h1]
  exact congrArg Ending.returned (SV.congr (fun i hi => by omega) hr)

end
end Go.Sx

/-
  Part 14: contracts of functions that write known memory, or make some.
-/
namespace Go.Sx
open Go.RowKit

def Reg.ren (ρ : List Nat) (r : Reg) : Reg := ⟨r.rw, r.con.ren ρ⟩

/-- callee's names: the first ones are the caller's by ρ, the others are new -/
def liftRen (ρ : List Nat) (n len : Nat) : List Nat := ρ ++ (List.range (len - ρ.length)).map (n + ·)

def setOne (σ : List Nat) (m : Mem) (i : Nat) : Option Reg → Mem
  | none => m.set i none
  | some ⟨true, c⟩ => m.set i (some ⟨true, c.ren σ⟩)
  | some ⟨false, _⟩ => m

def setAll (σ : List Nat) : List Nat → Mem → Mem → Mem
  | [], m, _ => m
  | _ :: _, m, [] => m
  | i :: ρ, m, r :: l => setAll σ ρ (setOne σ m i r) l

def newReg (σ : List Nat) : Option Reg → Option Reg
  | some ⟨true, c⟩ => some ⟨true, c.ren σ⟩
  | _ => none

/-- the caller's memory behind the call -/
def callMem (m : Mem) (ρ : List Nat) (mr : Mem) : Mem :=
  setAll (liftRen ρ m.length mr.length) ρ m mr ++ (mr.drop ρ.length).map (newReg (liftRen ρ m.length mr.length))

def liftV (m : Mem) (ρ : List Nat) (mr : Mem) (v : SV) : SV := v.ren (liftRen ρ m.length mr.length)

def Alt.lift (m : Mem) (ρ : List Nat) : Alt → Alt
  | .one v mr => .one (liftV m ρ mr v) (callMem m ρ mr)
  | .cond p v mr => .cond p (liftV m ρ mr v) (callMem m ρ mr)
  | .fam α p v mr => .fam α p (fun y => liftV m ρ (mr y) (v y)) (fun y => callMem m ρ (mr y))

/-- a region that may be written is not told as one that may not -/
def roB : Mem → Mem → Bool
  | a :: l, b :: r => (match a, b with | some x, some y => (y.rw || !x.rw) && roB l r | _, _ => roB l r)
  | _, _ => true

/-- no objects -/
def plainB : Mem → Bool
  | [] => true
  | some ⟨_, .obj ..⟩ :: _ => false
  | _ :: l => plainB l
theorem plainB_ok : ∀ {m : Mem}, plainB m = true → ∀ (i : Nat) (b : Bool) (t : Nat) (x : Pay) (I : ObjI), m[i]? ≠ some (some ⟨b, .obj t x I⟩)
  | [], _, i, b, t, x, I, h => by simp at h
  | r :: l, hp, i, b, t, x, I, h => by
    cases i with
    | zero =>
      simp at h
      subst h
      cases hp
    | succ i =>
      refine plainB_ok (m := l) ?_ i b t x I (by simpa using h)
      unfold plainB at hp
      split at hp
      · rename_i heq; cases heq
      · cases hp
      · rename_i heq; cases heq; exact hp
def Alt.plain : Alt → Prop
  | .one _ m => plainB m = true
  | .cond _ _ m => plainB m = true
  | .fam _ _ _ m => ∀ y, plainB (m y) = true
/-- what the body comes to is this way of ending -/
def altOne (m0 : Mem) (ρ : List Nat) (v : SV) (m : Mem) (v2 : SV) (m2 : Mem) : Prop :=
  match idB m0.length 0 ρ, Nat.ble m2.length ρ.length, nodupB ρ, Nat.ble m0.length m2.length && Mem.ok m2 && v2.ok m2.length && roB m0 m2, app2 (eqSV (v2.ren ρ) v) (subMem ρ m 0 m2) with
  | true, true, true, true, some l => allP l True
  | _, _, _, _, _ => False

def isAlt (m0 : Mem) (ρ : List Nat) (v : SV) (m : Mem) : Alt → Prop
  | .one v2 m2 => altOne m0 ρ v m v2 m2
  | .cond p v2 m2 => p ∧ altOne m0 ρ v m v2 m2
  | .fam _ p v2 m2 => ∃ y, p y ∧ altOne m0 ρ v m (v2 y) (m2 y)

def anyAlt (m0 : Mem) (ρ : List Nat) (v : SV) (m : Mem) : List Alt → Prop
  | [] => False
  | [a] => isAlt m0 ρ v m a
  | a :: l => isAlt m0 ρ v m a ∨ anyAlt m0 ρ v m l

theorem anyAlt_mem {m0 : Mem} {ρ : List Nat} {v : SV} {m : Mem} : ∀ {l : List Alt}, anyAlt m0 ρ v m l → ∃ a ∈ l, isAlt m0 ρ v m a
  | [a], h => ⟨a, List.mem_cons_self, h⟩
  | a :: b :: l, h => by
    rcases h with h | h
    · exact ⟨a, List.mem_cons_self, h⟩
    · obtain ⟨c, hc, h2⟩ := anyAlt_mem h
      exact ⟨c, List.mem_cons_of_mem _ hc, h2⟩

section
variable {P : Program} {e : Env} {w0 : World} {W : Nat → Prop} {m : Mem} {w : World}

/-- the callee's regions among the caller's -/
structure Fits (m : Mem) (ρ : List Nat) (m0 : Mem) : Prop where
  len : ρ.length = m0.length
  nodup : nodupB ρ = true
  lt : ∀ i, i < ρ.length → rn ρ i < m.length
  get : ∀ (i : Nat) (r : Reg), m0[i]? = some (some r) → ∃ y l, m[rn ρ i]? = some (some y) ∧ (r.rw = true → y.rw = true) ∧ subCon (r.con.ren ρ) y.con = some l ∧ Holds l
  plain : ∀ (i : Nat) (b : Bool) (t : Nat) (x : Pay) (I : ObjI), m0[i]? ≠ some (some ⟨b, .obj t x I⟩)

/-- the blocks that the callee may write -/
def WOf (e : Env) (m0 : Mem) (b : Nat) : Prop := ∃ i r a, m0[i]? = some (some r) ∧ r.rw = true ∧ r.con.some_ ∧ e i = some a ∧ a.block = b

theorem Rel.enter (h : Rel e w0 W m w) {ρ : List Nat} {m0 : Mem} (hf : Fits m ρ m0) : Rel (renE e ρ) w (WOf (renE e ρ) m0) m0 w := by
  have hl : ∀ i r, m0[i]? = some (some r) → i < ρ.length := fun i r hi => by rw [hf.len]; exact (List.getElem?_eq_some_iff.1 hi).1
  refine ⟨Fr.refl _ _, fun i r hi => ?_, ?_, fun i r a hi hrw hs ha => .inl ⟨i, r, a, hi, hrw, hs, ha, rfl⟩, Objs.empty fun i x I ⟨t, hi⟩ => hf.plain i true t x I hi, .none fun i t x I => hf.plain i false t x I⟩
  · obtain ⟨y, l, h1, h2, h3, h4⟩ := hf.get i r hi
    have hR := h.reg _ _ h1
    obtain ⟨h5, h6⟩ := subCon_cell (e := e) h3 h4
    refine ⟨fun j v hv => ?_, fun es k hm => ?_⟩
    · rw [← Con.cell_ren] at hv
      obtain ⟨a, ha, hc, hfr⟩ := hR.cell j v (h5 j v hv)
      exact ⟨a, ha, hc, fun hr => hfr (h2 hr)⟩
    · intro j2 hj2
      obtain ⟨l2, hl2⟩ := h6 es _ (by rw [hm]; rfl)
      obtain ⟨a, u, ha, hc, hf⟩ := hR.map es l2 hl2 j2 hj2
      exact ⟨a, u, ha, hc, fun hr => hf (h2 hr)⟩
  · intro i j ri rj a b hij hi hj hrw hsi hsj ha hb
    obtain ⟨yi, li, h1, h2, h3, h4⟩ := hf.get i ri hi
    obtain ⟨yj, lj, h5, h6, h7, h8⟩ := hf.get j rj hj
    exact h.sep (rn ρ i) (rn ρ j) yi yj a b (fun hh => hij (nodupB_inj hf.nodup i j (hl i ri hi) (hl j rj hj) hh)) h1 h5 (h2 hrw) (subCon_some h3 h4 (some_ren hsi)) (subCon_some h7 h8 (some_ren hsj)) ha hb

theorem setOne_len {σ : List Nat} {m : Mem} {i : Nat} {r : Option Reg} : (setOne σ m i r).length = m.length := by
  unfold setOne; split <;> simp
theorem setAll_len {σ : List Nat} : ∀ {ρ : List Nat} {m l : Mem}, (setAll σ ρ m l).length = m.length
  | [], _, _ => rfl
  | _ :: _, _, [] => rfl
  | i :: ρ, m, r :: l => by simp [setAll, setAll_len (ρ := ρ), setOne_len]

theorem setOne_other {σ : List Nat} {m : Mem} {i j : Nat} {r : Option Reg} (h : i ≠ j) : (setOne σ m i r)[j]? = m[j]? := by
  unfold setOne; split <;> simp [List.getElem?_set_ne h]

theorem setAll_get {σ : List Nat} : ∀ {ρ : List Nat} {m l : Mem}, nodupB ρ = true → (∀ i, i < ρ.length → rn ρ i < m.length) → ρ.length ≤ l.length →
    (∀ i, i < ρ.length → ∃ r, l[i]? = some r ∧ (setAll σ ρ m l)[rn ρ i]? = (setOne σ m (rn ρ i) r)[rn ρ i]?) ∧ (∀ j, (∀ i, i < ρ.length → rn ρ i ≠ j) → (setAll σ ρ m l)[j]? = m[j]?)
  | [], m, l, _, _, _ => ⟨fun i hi => (by simp at hi), fun j _ => rfl⟩
  | x :: ρ, m, [], _, _, hl => by simp at hl
  | x :: ρ, m, r :: l, hnd, hlt, hl => by
    have hsh : ∀ i, i < ρ.length → rn (x :: ρ) (i + 1) = rn ρ i := by
      intro i hi; simp [rn, hi]
    have hx0 : rn (x :: ρ) 0 = x := rfl
    have hxne : ∀ i, i < ρ.length → rn ρ i ≠ x := by
      intro i hi hh
      have := nodupB_inj hnd (i + 1) 0 (by simp; omega) (by simp) (by
        have h1 := hsh i hi
        simp only [rn] at h1 hh hx0
        rw [h1, hh]; rfl)
      omega
    have hnd' : nodupB ρ = true := by simp only [nodupB, Bool.and_eq_true] at hnd; exact hnd.2
    have hxl : x < m.length := hlt 0 (by simp)
    obtain ⟨h1, h2⟩ := setAll_get (σ := σ) (ρ := ρ) (m := setOne σ m x r) (l := l) hnd' (fun i hi => by
      rw [setOne_len, ← hsh i hi]; exact hlt (i + 1) (by simp; omega)) (by simpa using hl)
    refine ⟨fun i hi => ?_, fun j hj => ?_⟩
    · cases i with
      | zero =>
        refine ⟨r, rfl, ?_⟩
        rw [hx0]
        show (setAll σ ρ (setOne σ m x r) l)[x]? = _
        rw [h2 x hxne]
      | succ i =>
        have hi' : i < ρ.length := by simpa using hi
        rw [hsh i hi']
        obtain ⟨r', hr', h3⟩ := h1 i hi'
        refine ⟨r', hr', ?_⟩
        show (setAll σ ρ (setOne σ m x r) l)[rn ρ i]? = _
        rw [h3]
        have hne : x ≠ rn ρ i := fun hh => hxne i hi' hh.symm
        have hlt' : rn ρ i < m.length := by have := hlt (i + 1) (by simp; omega); rwa [hsh i hi'] at this
        cases r' with
        | none =>
          show ((setOne σ m x r).set (rn ρ i) none)[rn ρ i]? = (m.set (rn ρ i) none)[rn ρ i]?
          rw [List.getElem?_set_self (by rw [setOne_len]; exact hlt'), List.getElem?_set_self hlt']
        | some r' =>
          obtain ⟨rw', c'⟩ := r'
          cases rw' with
          | true =>
            show ((setOne σ m x r).set (rn ρ i) (some ⟨true, c'.ren σ⟩))[rn ρ i]? = (m.set (rn ρ i) (some ⟨true, c'.ren σ⟩))[rn ρ i]?
            rw [List.getElem?_set_self (by rw [setOne_len]; exact hlt'), List.getElem?_set_self hlt']
          | false => simp only [setOne]; exact setOne_other hne
    · show (setAll σ ρ (setOne σ m x r) l)[j]? = _
      rw [h2 j (fun i hi => by rw [← hsh i hi]; exact hj (i + 1) (by simp; omega)), setOne_other (by have := hj 0 (by simp); rwa [hx0] at this)]

theorem some_unren {σ : List Nat} {c : Con} (h : (c.ren σ).some_) : c.some_ := by
  cases c with
  | flat l =>
    intro h0
    subst h0
    exact h rfl
  | tab n cols => exact h
  | room es k => exact h
  | obj t x I => exact h

/-- Behind the call: the caller's memory. -/
theorem Rel.leave (h : Rel e w0 W m w) (hok : Mem.ok m = true) {ρ : List Nat} {m0 mr : Mem} (hf : Fits m ρ m0) {e' : Env} {w' : World} (hr : Rel e' w (WOf (renE e ρ) m0) mr w') (hag : ∀ i, i < ρ.length → e' i = renE e ρ i) (hk : ρ.length ≤ mr.length) (hokr : Mem.ok mr = true)
    (hro : ∀ (q : Nat) (r0 : Reg) (c : Con), m0[q]? = some (some r0) → mr[q]? = some (some ⟨false, c⟩) → r0.rw = false) (hnr : ∀ i x I, ¬ IsO mr i x I) :
    ∃ e2 : Env, (∀ i, i < m.length → e2 i = e i) ∧ Rel e2 w0 W (callMem m ρ mr) w' ∧ ∀ v : SV, v.ok mr.length = true → (liftV m ρ mr v).den e2 = v.den e' := by
  let σ := liftRen ρ m.length mr.length
  let e2 : Env := fun i => if i < m.length then e i else e' (ρ.length + (i - m.length))
  have hσ : ∀ i, i < mr.length → renE e2 σ i = e' i := by
    intro i hi
    have hlen : σ.length = mr.length := by simp [σ, liftRen]; omega
    show (if rn σ i < m.length then e (rn σ i) else e' (ρ.length + (rn σ i - m.length))) = e' i
    rcases Nat.lt_or_ge i ρ.length with hlt | hge
    · have h1 : rn σ i = rn ρ i := by
        simp only [rn, σ, liftRen, List.getD_eq_getElem?_getD]
        rw [List.getElem?_append_left hlt]
      rw [h1, if_pos (hf.lt i hlt)]
      exact (hag i hlt).symm
    · have h1 : rn σ i = m.length + (i - ρ.length) := by
        simp only [rn, σ, liftRen, List.getD_eq_getElem?_getD]
        rw [List.getElem?_append_right hge, List.getElem?_map, List.getElem?_range (by omega)]
        rfl
      rw [h1, if_neg (by omega)]
      congr 1; omega
  have hagree : ∀ i, i < m.length → e2 i = e i := fun i hi => if_pos hi
  -- a block that the callee may have written is that of one of its regions
  have hWb : ∀ b, WOf (renE e ρ) m0 b → ∃ i y a, i < ρ.length ∧ m[rn ρ i]? = some (some y) ∧ y.rw = true ∧ y.con.some_ ∧ e (rn ρ i) = some a ∧ a.block = b := by
    rintro b ⟨i, r, a, hi, hrw, hs, ha, hb⟩
    obtain ⟨y, l, h1, h2, h3, h4⟩ := hf.get i r hi
    exact ⟨i, y, a, by rw [hf.len]; exact (List.getElem?_eq_some_iff.1 hi).1, h1, h2 hrw, subCon_some h3 h4 (some_ren hs), ha, hb⟩
  obtain ⟨hg1, hg2⟩ := setAll_get (σ := σ) (m := m) (l := mr) hf.nodup hf.lt hk
  -- which region stands behind a name
  have hlen : σ.length = mr.length := by simp [σ, liftRen]; omega
  have hsl : ∀ j, j < ρ.length → rn σ j = rn ρ j := by
    intro j hj
    simp only [rn, σ, liftRen, List.getD_eq_getElem?_getD]
    rw [List.getElem?_append_left hj]
  have hsr : ∀ j, ρ.length ≤ j → j < mr.length → rn σ j = m.length + (j - ρ.length) := by
    intro j hj hj2
    simp only [rn, σ, liftRen, List.getD_eq_getElem?_getD]
    rw [List.getElem?_append_right hj, List.getElem?_map, List.getElem?_range (by omega)]
    rfl
  have hcase : ∀ (i : Nat) (r : Reg), (callMem m ρ mr)[i]? = some (some r) →
      (∃ j c, mr[j]? = some (some ⟨true, c⟩) ∧ r = ⟨true, c.ren σ⟩ ∧ e2 i = e' j ∧ i = rn σ j) ∨ (i < m.length ∧ m[i]? = some (some r) ∧ ((∀ j, j < ρ.length → rn ρ j ≠ i) ∨ ∃ j c, j < ρ.length ∧ rn ρ j = i ∧ mr[j]? = some (some ⟨false, c⟩))) := by
    intro i r hi
    unfold callMem at hi
    rcases Nat.lt_or_ge i m.length with hlt | hge
    · rw [List.getElem?_append_left (by rw [setAll_len]; exact hlt)] at hi
      by_cases hex : ∃ j, j < ρ.length ∧ rn ρ j = i
      · obtain ⟨j, hj, hji⟩ := hex
        obtain ⟨q, hq, h3⟩ := hg1 j hj
        rw [← hji, h3] at hi
        have hlt' : rn ρ j < m.length := hf.lt j hj
        cases q with
        | none => simp [setOne, hlt'] at hi
        | some q =>
          obtain ⟨rw', c⟩ := q
          cases rw' with
          | true =>
            simp [setOne, hlt'] at hi
            refine .inl ⟨j, c, hq, hi.symm, ?_, by rw [hsl j hj, hji]⟩
            rw [hagree i hlt, hag j hj, ← hji]; rfl
          | false =>
            simp only [setOne] at hi
            exact .inr ⟨hlt, by rw [← hji]; exact hi, .inr ⟨j, c, hj, hji, hq⟩⟩
      · rw [hg2 i (fun j hj hji => hex ⟨j, hj, hji⟩)] at hi
        exact .inr ⟨hlt, hi, .inl fun j hj hji => hex ⟨j, hj, hji⟩⟩
    · rw [List.getElem?_append_right (by rw [setAll_len]; exact hge), setAll_len, List.getElem?_map, List.getElem?_drop] at hi
      cases hm : mr[ρ.length + (i - m.length)]? with
      | none => rw [hm] at hi; cases hi
      | some q =>
        rw [hm] at hi
        cases q with
        | none => cases hi
        | some q =>
          obtain ⟨rw', c⟩ := q
          cases rw' with
          | true =>
            cases hi
            have hjl := (List.getElem?_eq_some_iff.1 hm).1
            refine .inl ⟨_, c, hm, rfl, if_neg (by omega), ?_⟩
            rw [hsr _ (by omega) hjl]; omega
          | false => cases hi
  have hren : ∀ (r' : Reg) (j : Nat) (v : Value), (r'.ren σ).con.cell e2 j = some v → r'.con.ok mr.length = true → r'.con.cell e' j = some v := by
    intro r' j v hv hok'
    simp only [Reg.ren] at hv
    rw [Con.cell_ren, Con.congr (e := e') (e' := renE e2 σ) hσ hok'] at hv
    exact hv
  have hro' : ∀ i, ((∀ j, j < ρ.length → rn ρ j ≠ i) ∨ ∃ j c, j < ρ.length ∧ rn ρ j = i ∧ mr[j]? = some (some ⟨false, c⟩)) → ∀ q, q < ρ.length → rn ρ q = i → ∀ r0, m0[q]? = some (some r0) → r0.rw = false := by
    intro i hne q hq hqi r0 h0
    rcases hne with h1 | ⟨j, c, hj, hji, hm⟩
    · exact absurd hqi (h1 q hq)
    · have : q = j := nodupB_inj hf.nodup q j hq hj (hqi.trans hji.symm)
      subst this
      exact hro q r0 c h0 hm
  -- what the callee may have written is the caller's to write, and none of its other regions
  have hout : ∀ (a : Addr), (WOf (renE e ρ) m0 a.block ∨ w.heap.size ≤ a.block) → ∀ (j : Nat) (r : Reg) (b : Addr), m[j]? = some (some r) → r.con.some_ → e j = some b →
      ((∀ q, q < ρ.length → rn ρ q ≠ j) ∨ r.rw = false ∨ ∃ q c, q < ρ.length ∧ rn ρ q = j ∧ mr[q]? = some (some ⟨false, c⟩)) → (∀ q, q < ρ.length → rn ρ q = j → ∀ r0, m0[q]? = some (some r0) → r0.rw = false) → a.block ≠ b.block := by
    intro a ha j r b hj hs hb _ hro heq
    rcases ha with ⟨i, r0, a', hi, hrw, hs0, ha', hab⟩ | hge
    · obtain ⟨y, l, h1, h2, h3, h4⟩ := hf.get i r0 hi
      have hil : i < ρ.length := by rw [hf.len]; exact (List.getElem?_eq_some_iff.1 hi).1
      by_cases hij : rn ρ i = j
      · have := hro i hil hij r0 hi
        rw [this] at hrw; cases hrw
      · exact h.sep (rn ρ i) j y r a' b hij h1 hj (h2 hrw) (subCon_some h3 h4 (some_ren hs0)) hs ha' hb (hab.trans heq)
    · have hR := h.reg j r hj
      rw [hb] at hR
      have := hR.lt hs
      omega
  refine ⟨e2, hagree, ⟨⟨hr.fr.os.trans h.fr.os, hr.fr.tape.trans h.fr.tape, hr.fr.output.trans h.fr.output, Nat.le_trans h.fr.size hr.fr.size, fun b hb hw => ?_⟩, ?_, ?_, ?_, ?_, h.ro.to fun i t x I hi => ?_⟩, fun v hv => ?_⟩
  · rw [hr.fr.block b (by have := h.fr.size; omega) (fun hW => ?_)]
    · exact h.fr.block b hb hw
    · obtain ⟨i, y, a, _, h1, h2, h3, h4, h5⟩ := hWb b hW
      rcases h.wr _ y a h1 h2 h3 h4 with h6 | h6
      · rw [h5] at h6; exact hw h6
      · omega
  · intro i r hi
    rcases hcase i r hi with ⟨j, c, hm, rfl, he, _⟩ | ⟨hlt, hm, hne⟩
    · have hR := hr.reg j _ hm
      rw [he]
      refine ⟨fun q v hv => ?_, fun es k hk => ?_⟩
      · exact hR.cell q v (hren ⟨true, c⟩ q v hv (Mem.ok_get hokr hm))
      · cases c with
        | room es' k' => cases hk; exact hR.map _ _ rfl
        | flat l => cases hk
        | tab n cols => cases hk
        | obj t x I => cases hk
    · rw [hagree i hlt]
      have hR := h.reg i r hm
      have h1 : RegOK e w' (e i) r := hR.keep fun a ha hs => by
        have hb := h.reg i r hm
        rw [ha] at hb
        refine hr.fr.block _ (hb.lt hs) fun hW => ?_
        exact hout a (.inl hW) i r a hm hs ha (by rcases hne with h2 | h2; exact .inl h2; exact .inr (.inr h2)) (hro' i hne) rfl
      refine ⟨fun j v hv => ?_, h1.map⟩
      rw [Con.congr hagree (Mem.ok_get hok hm)] at hv
      exact h1.cell j v hv
  · intro i j ri rj a b hij hi hj hrw hsi hsj ha hb
    rcases hcase i ri hi with ⟨j1, c1, hm1, rfl, he1, hn1⟩ | ⟨hlt1, hm1, hne1⟩ <;> rcases hcase j rj hj with ⟨j2, c2, hm2, rfl, he2, hn2⟩ | ⟨hlt2, hm2, hne2⟩
    · rw [he1] at ha
      rw [he2] at hb
      refine hr.sep j1 j2 _ _ a b (fun hh => hij (by rw [hn1, hn2, hh])) hm1 hm2 rfl (some_unren hsi) (some_unren hsj) ha hb
    · rw [he1] at ha
      rw [hagree j hlt2] at hb
      exact hout a (hr.wr j1 _ a hm1 rfl (some_unren hsi) ha) j rj b hm2 hsj hb (by rcases hne2 with h2 | h2; exact .inl h2; exact .inr (.inr h2)) (hro' j hne2)
    · rw [he2] at hb
      rw [hagree i hlt1] at ha
      exact (hout b (hr.wr j2 _ b hm2 rfl (some_unren hsj) hb) i ri a hm1 hsi ha (by rcases hne1 with h2 | h2; exact .inl h2; exact .inr (.inr h2)) (hro' i hne1)).symm
    · rw [hagree i hlt1] at ha
      rw [hagree j hlt2] at hb
      exact h.sep i j ri rj a b hij hm1 hm2 hrw hsi hsj ha hb
  · intro i r a hi hrw hs ha
    rcases hcase i r hi with ⟨j1, c1, hm1, rfl, he1, hn1⟩ | ⟨hlt1, hm1, hne1⟩
    · rw [he1] at ha
      rcases hr.wr j1 _ a hm1 rfl (some_unren hs) ha with hW | hge
      · obtain ⟨i', y, a', _, h1, h2, h3, h4, h5⟩ := hWb _ hW
        rw [← h5]
        exact h.wr _ y a' h1 h2 h3 h4
      · exact .inr (Nat.le_trans h.fr.size hge)
    · rw [hagree i hlt1] at ha
      exact h.wr i r a hm1 hrw hs ha
  · obtain ⟨F, hF⟩ := h.obj
    have hI : ∀ {j x I}, IsO (callMem m ρ mr) j x I → j < m.length ∧ IsO m j x I := by
      rintro j x I ⟨t, hj⟩
      rcases hcase j _ hj with ⟨j1, c, hm, hr', _, _⟩ | ⟨hlt, hm, _⟩
      · have : c = .obj t x I := by cases c <;> first | (cases hr'; rfl) | cases hr'
        subst this
        exact absurd ⟨_, hm⟩ (hnr j1 x I)
      · exact ⟨hlt, t, hm⟩
    refine ⟨F, hF.to (fun hj => ⟨(hI hj).2, hagree _ (hI hj).1⟩) hr.fr.size (fun {j x I b} hj hb => hr.fr.block b (I.lt (hF.ok (hI hj).2) b hb) fun hW => ?_) (fun {q x I j r a} hq hj hs ha => ?_)⟩
    · obtain ⟨i, y, a, _, h1, h2, h3, h4, h5⟩ := hWb b hW
      exact hF.off (hI hj).2 h1 h3 h4 (h5 ▸ hb)
    · rcases hcase j r hj with ⟨j1, c1, hm1, rfl, he1, hn1⟩ | ⟨hlt1, hm1, _⟩
      · rw [he1] at ha
        rcases hr.wr j1 _ a hm1 rfl (some_unren hs) ha with hW | hge
        · obtain ⟨i', y, a', _, h1, h2, h3, h4, h5⟩ := hWb _ hW
          rw [← h5]
          exact hF.off (hI hq).2 h1 h3 h4
        · intro hb
          have := I.lt (hF.ok (hI hq).2) _ hb
          omega
      · rw [hagree j hlt1] at ha
        exact hF.off (hI hq).2 hm1 hs ha
  · rcases hcase i _ hi with ⟨j1, c, _, hr', _⟩ | ⟨hlt, hm, _⟩
    · cases hr'
    · exact ⟨i, hm, hagree i hlt⟩
  · simp only [liftV]
    rw [SV.den_ren]
    exact SV.congr hσ hv

theorem roB_ok : ∀ {m0 m2 : Mem}, roB m0 m2 = true → ∀ (q : Nat) (r0 : Reg) (c : Con), m0[q]? = some (some r0) → m2[q]? = some (some ⟨false, c⟩) → r0.rw = false
  | [], _, _, q, r0, c, h, _ => by simp at h
  | _ :: _, [], _, q, r0, c, _, h => by simp at h
  | a :: l, b :: r, hb, q, r0, c, h1, h2 => by
    simp only [roB] at hb
    cases q with
    | zero =>
      simp at h1 h2
      subst h1; subst h2
      simp only [Bool.false_or, Bool.and_eq_true] at hb
      simpa using hb.1
    | succ q =>
      have hb' : roB l r = true := by
        split at hb
        · simp only [Bool.and_eq_true] at hb; exact hb.2
        · exact hb
      exact roB_ok hb' q r0 c (by simpa using h1) (by simpa using h2)

theorem altOne_after {m0 : Mem} {ρ' : List Nat} {v : SV} {m' : Mem} {v2 : SV} {m2 : Mem} (ha : altOne m0 ρ' v m' v2 m2) (h : Rel e w0 W m w) (hok : Mem.ok m = true) {ρ : List Nat} (hf : Fits m ρ m0) {e' : Env} {w' : World}
    (hr : Rel e' w (WOf (renE e ρ) m0) m' w') (hag : ∀ i, i < m0.length → e' i = renE e ρ i) {r : Ending} (hre : r = .returned (v.den e')) (hpl : plainB m2 = true) : After e m.length w0 W (liftV m ρ m2 v2) (callMem m ρ m2) r w' := by
  unfold altOne at ha
  split at ha
  · rename_i l h1 h2 h3 h4 h5
    have h2 := Nat.ble_iff.1 h2
    simp only [Bool.and_eq_true] at h4
    obtain ⟨⟨⟨h6, h7⟩, h8⟩, h9⟩ := h4
    have h6 := Nat.ble_iff.1 h6
    obtain ⟨x, y, h10, h11, rfl⟩ := app2_some h5
    obtain ⟨h12, h13⟩ := holds_app (allP_iff.1 ha).1
    have hr2 := hr.sub h11 h13 h2 h3
    obtain ⟨e2, h14, h15, h16⟩ := h.leave hok hf hr2 (fun i hi => by
      rw [hf.len] at hi
      have := idB_ok h1 i hi
      rw [Nat.zero_add] at this
      show e' (rn ρ' i) = _
      rw [show rn ρ' i = i by simp only [rn, List.getD, this, Option.getD_some]]
      exact hag i hi) (by rw [hf.len]; exact h6) h7 (roB_ok h9) (fun i x I ⟨t, hi⟩ => plainB_ok hpl i true t x I hi)
    refine ⟨e2, h14, ?_, h15⟩
    rw [hre, h16 v2 h8, ← SV.den_ren, eqSV_den h10 h12]
  · exact ha.elim

/-- A contract out of a function's body. -/
theorem eff_sound (hm : P.follows .mixedOrders = true) {f : FuncId} {fn : Func} (hfn : P.funcs[f]? = some fn) {cx : Cx P} {args0 : List SV} {m0 : Mem} (hn0 : cx.n0 = m0.length) {al : List Alt} {ren : SV → Mem → List Nat}
    (h : Runs cx fn args0 m0 fun v m' => anyAlt m0 (ren v m') v m' al) (hpl : ∀ a ∈ al, a.plain) {args : List SV} {ρ : List Nat} (hargs : args = args0.map (SV.ren ρ)) (hf : Fits m ρ m0) (hok : Mem.ok m = true)
    (e : Env) (w0 : World) (W : Nat → Prop) (w : World) (hrel : Rel e w0 W m w) : Calls P f (args.map (SV.den e)).toArray w fun r w' => ∃ a ∈ al.map (Alt.lift m ρ), a.Says e m.length w0 W r w' := by
  have ha : args.map (SV.den e) = args0.map (SV.den (renE e ρ)) := by
    rw [hargs, List.map_map]
    exact List.map_congr_left fun x _ => SV.den_ren e ρ x
  rw [ha]
  refine (runs_sound hm hfn h (hrel.enter hf) (by omega)).mono fun r w' ⟨v, m', e', h1, h2, h3, h4⟩ => ?_
  obtain ⟨a, hal, hia⟩ := anyAlt_mem h1
  refine ⟨a.lift m ρ, List.mem_map_of_mem hal, ?_⟩
  have hag : ∀ i, i < m0.length → e' i = renE e ρ i := fun i hi => h4 i (by omega)
  have hp := hpl a hal
  cases a with
  | one v2 m2 => exact altOne_after hia hrel hok hf h3 hag h2 hp
  | cond p v2 m2 => exact ⟨hia.1, altOne_after hia.2 hrel hok hf h3 hag h2 hp⟩
  | fam α p v2 m2 =>
    obtain ⟨y, h5, h6⟩ := hia
    exact ⟨y, h5, altOne_after h6 hrel hok hf h3 hag h2 (hp y)⟩

/-- A function that reads regions alone. -/
theorem read_sound (hm : P.follows .mixedOrders = true) {f : FuncId} {fn : Func} (hfn : P.funcs[f]? = some fn) {cx : Cx P} {args0 : List SV} {m0 : Mem} (hn0 : cx.n0 ≤ m0.length) (hro : ∀ (i : Nat) (r : Reg), m0[i]? = some (some r) → r.rw = false) {v0 : SV} (hv0 : v0.ok 0 = true)
    (h : Runs cx fn args0 m0 fun v _ => isRes v0 v) {args : List SV} {ρ : List Nat} (hargs : args = args0.map (SV.ren ρ)) (hf : Fits m ρ m0)
    (e : Env) (w0 : World) (W : Nat → Prop) (w : World) (hrel : Rel e w0 W m w) : Calls P f (args.map (SV.den e)).toArray w fun r w' => r = .returned (v0.den e) ∧ Rel e w0 W m w' := by
  have ha : args.map (SV.den e) = args0.map (SV.den (renE e ρ)) := by
    rw [hargs, List.map_map]
    exact List.map_congr_left fun x _ => SV.den_ren e ρ x
  rw [ha]
  refine (runs_sound hm hfn h (hrel.enter hf) hn0).mono fun r w' ⟨v, m', e', h1, h2, h3, h4⟩ => ⟨?_, hrel.same ?_⟩
  · rw [h2, ← isRes_den (e := e') h1]
    exact congrArg Ending.returned (SV.congr (fun i hi => by omega) hv0)
  · refine ⟨h3.fr.os, h3.fr.tape, h3.fr.output, h3.fr.size, fun b hb _ => h3.fr.block b hb ?_⟩
    rintro ⟨i, r, a, hi, hrw, _⟩
    rw [hro i r hi] at hrw; cases hrw

end
end Go.Sx

/-
  Part 15: a law's statement out of its body, carried out: arguments that come in, and what the row asks.
-/
namespace Go.Sx
open Go.RowKit Go.WideShapes Go.ChangeShapes Go.Deep

/-- a number's kind; none: a bool -/
abbrev RK := Option IntKind
inductive Sh where
  | num (k : RK)
  | sl (row : List RK)

section
variable (P : Program)

def rowFields (f : TypeId → Option (List RK)) : List Field → Nat → Option (List RK)
  | [], _ => some []
  | x :: l, off => (match Nat.beq x.offset off, f x.type with
    | true, some s => (match Nat.beq (P.cellsOf x.type) s.length, rowFields f l (off + s.length) with | true, some r => some (s ++ r) | _, _ => none)
    | _, _ => none)
def rep {α : Type} : Nat → List α → List α
  | 0, _ => []
  | n + 1, l => l ++ rep n l
def rowOf : Nat → TypeId → Option (List RK)
  | 0, _ => none
  | d + 1, t => (match P.underlying t with
    | some (.int k) => some [some k]
    | some .bool => some [none]
    | some (.struct fs) => (match rowFields P (rowOf d) fs.toList 0 with | some l => (match Nat.beq (P.cellsOf t) l.length with | true => some l | false => none) | none => none)
    | some (.array n e) => (match rowOf d e with
      | some l => (match Nat.beq (P.cellsOf e) l.length, Nat.beq (P.cellsOf t) (n * l.length) with | true, true => some (rep n l) | _, _ => none)
      | none => none)
    | _ => none)
end

def NumIs (v : Value) : RK → Prop
  | some k => ∃ n, v = .int k n ∧ (Lit.int k n).wf = true
  | none => ∃ b, v = .bool b

theorem rep_len {α : Type} (n : Nat) (l : List α) : (rep n l).length = n * l.length := by
  induction n with
  | zero => simp [rep]
  | succ n ih => simp [rep, ih, Nat.add_mul, Nat.add_comm]
theorem rep_get {α : Type} {n : Nat} {l : List α} : ∀ {i j : Nat}, i < n → j < l.length → (rep n l)[i * l.length + j]? = l[j]? := by
  induction n with
  | zero => intro i j hi; omega
  | succ n ih =>
    intro i j hi hj
    simp only [rep]
    cases i with
    | zero => rw [Nat.zero_mul, Nat.zero_add, List.getElem?_append_left hj]
    | succ i =>
      have h1 : (i + 1) * l.length + j = l.length + (i * l.length + j) := by rw [Nat.add_mul]; omega
      rw [h1, List.getElem?_append_right (by omega), Nat.add_sub_cancel_left]
      exact ih (by omega) hj

section
variable {P : Program} {H : Type} {enc : TypeId × Value → H} {w : World} {base : Nat} {spare : Nat → Bool} {held : Bool}

/-- cells that read as a row -/
theorem row_open : ∀ (d : Nat) {t : TypeId} {ss : List RK}, rowOf P d t = some ss → ∀ {fuel : Nat} {cs : List Value} {x : DataW H × List MemPlace}, DataW.trod enc P w base spare held fuel t cs = some x →
    cs.length = ss.length ∧ ∀ (j : Nat) (k : RK), ss[j]? = some k → ∃ v, cs[j]? = some v ∧ NumIs v k
  | 0, t, ss, h, _, _, _, _ => by cases h
  | d + 1, t, ss, h, fuel, cs, x, hx => by
    simp only [rowOf] at h
    split at h
    · rename_i k hd
      cases h
      obtain ⟨n, rfl, _, hw⟩ := DataW.trod_int hd hx
      refine ⟨rfl, fun j k' hj => ?_⟩
      cases j with
      | zero => simp at hj; subst hj; exact ⟨_, rfl, n, rfl, hw⟩
      | succ j => simp at hj
    · rename_i hd
      cases h
      obtain ⟨b, rfl, _⟩ := DataW.trod_bool hd hx
      refine ⟨rfl, fun j k' hj => ?_⟩
      cases j with
      | zero => simp at hj; subst hj; exact ⟨_, rfl, b, rfl⟩
      | succ j => simp at hj
    · rename_i fs hd
      split at h
      · rename_i l hl
        split at h
        · rename_i hsz
          cases h
          have hsz := Nat.beq_iff.1 hsz
          obtain ⟨xs, n, _, _, hlen, hxl, hf⟩ := DataW.trod_struct hd hx
          refine ⟨hlen.trans hsz, ?_⟩
          have key : ∀ (fl : List Field) (off : Nat) (l : List RK), rowFields P (rowOf P d) fl off = some l → (∀ f ∈ fl, ∃ y, DataW.trod enc P w base spare held n f.type ((cs.drop f.offset).take (P.cellsOf f.type)) = some y) →
              ∀ (j : Nat) (k : RK), l[j]? = some k → ∃ v, cs[off + j]? = some v ∧ NumIs v k := by
            intro fl
            induction fl with
            | nil => intro off l hl _ j k hj; cases hl; simp at hj
            | cons f fl ih =>
              intro off l hl hfs j k hj
              simp only [rowFields] at hl
              split at hl
              · rename_i s ho hs
                split at hl
                · rename_i r hc hr
                  cases hl
                  have ho := Nat.beq_iff.1 ho
                  have hc := Nat.beq_iff.1 hc
                  obtain ⟨y, hy⟩ := hfs f List.mem_cons_self
                  obtain ⟨h1, h2⟩ := row_open d hs hy
                  rw [List.getElem?_append] at hj
                  by_cases hjs : j < s.length
                  · rw [if_pos hjs] at hj
                    obtain ⟨v, hv, hn⟩ := h2 j k hj
                    rw [List.getElem?_take, if_pos (by omega), List.getElem?_drop, ho] at hv
                    exact ⟨v, hv, hn⟩
                  · rw [if_neg hjs] at hj
                    obtain ⟨v, hv, hn⟩ := ih _ _ hr (fun g hg => hfs g (List.mem_cons_of_mem _ hg)) _ k hj
                    exact ⟨v, by rw [← hv]; congr 1; omega, hn⟩
                · cases hl
              · cases hl
          intro j k hj
          have := key fs.toList 0 _ hl (fun f hf' => by
            obtain ⟨i, hi, rfl⟩ := List.getElem_of_mem hf'
            have hi' : i < fs.size := by simpa using hi
            have h3 := hf i fs[i] (Array.getElem?_eq_getElem hi')
            exact ⟨xs[i]'(by omega), by rw [show fs.toList[i] = fs[i] by simp, h3]; exact List.getElem?_eq_getElem (by omega)⟩) j k hj
          rwa [Nat.zero_add] at this
        · cases h
      · cases h
    · rename_i n el hd
      split at h
      · rename_i l hl
        split at h
        · rename_i hc hs
          cases h
          have hc := Nat.beq_iff.1 hc
          have hs := Nat.beq_iff.1 hs
          obtain ⟨xs, m, _, _, hlen, hxl, hf⟩ := DataW.trod_array hd hx
          refine ⟨by rw [rep_len, hlen, hs], fun j k hj => ?_⟩
          have hjl : j < n * l.length := by rw [← rep_len]; exact (List.getElem?_eq_some_iff.1 hj).1
          have hpos : 0 < l.length := by
            rcases Nat.eq_zero_or_pos l.length with h0 | h0
            · rw [h0] at hjl; omega
            · exact h0
          have hm : j % l.length < l.length := Nat.mod_lt _ hpos
          have hd' : j / l.length < n := by
            rw [Nat.div_lt_iff_lt_mul hpos]; exact hjl
          have hjv : j = j / l.length * l.length + j % l.length := by rw [Nat.mul_comm]; exact (Nat.div_add_mod j l.length).symm
          rw [hjv, rep_get hd' hm] at hj
          have h3 := hf (j / l.length) hd'
          rw [List.getElem?_eq_getElem (show j / l.length < xs.length by omega)] at h3
          obtain ⟨h1, h2⟩ := row_open d hl h3
          obtain ⟨v, hv, hn⟩ := h2 _ k hj
          rw [List.getElem?_take, if_pos (by omega), List.getElem?_drop, hc, ← hjv] at hv
          exact ⟨v, hv, hn⟩
        · cases h
      · cases h
    · cases h

def intC (w : World) (A : Option Addr) (j : Nat) : Int :=
  match A with
  | some a => (match w.cell? (a.add j) with | some (.int _ n) => n | _ => 0)
  | none => 0
def boolC (w : World) (A : Option Addr) (j : Nat) : Bool :=
  match A with
  | some a => (match w.cell? (a.add j) with | some (.bool b) => b | _ => false)
  | none => false

def colC (w : World) (A : Option Addr) (st c : Nat) : RK → Col
  | some k => .int k fun r => intC w A (r * st + c)
  | none => .bool fun r => boolC w A (r * st + c)
def colsC (w : World) (A : Option Addr) (st : Nat) : Nat → List RK → List Col
  | _, [] => []
  | c, k :: l => colC w A st c k :: colsC w A st (c + 1) l

theorem colsC_len {A : Option Addr} {st : Nat} : ∀ {l : List RK} {c : Nat}, (colsC w A st c l).length = l.length
  | [], _ => rfl
  | _ :: l, c => by simp [colsC, colsC_len (l := l)]
theorem colsC_get {A : Option Addr} {st : Nat} : ∀ {l : List RK} {c j : Nat}, (colsC w A st c l)[j]? = (l[j]?).map (colC w A st (c + j))
  | [], _, _ => by simp [colsC]
  | k :: l, c, 0 => by simp [colsC]
  | k :: l, c, j + 1 => by
    simp only [colsC, List.getElem?_cons_succ]
    rw [colsC_get (l := l)]
    congr 2; omega

/-- A slice that came in: n rows, each of the kinds 'row'. -/
structure Slc (w : World) (v : Value) (row : List RK) (A : Option Addr) (n cap : Nat) : Prop where
  val : v = .slice A n cap
  le : n ≤ cap
  max : cap ≤ 9223372036854775807
  reg : ∀ e : Env, RegOK e w A ⟨false, .tab n (colsC w A row.length 0 row)⟩
  wf : ∀ (c : Nat) (k : IntKind), row[c]? = some (some k) → ∀ r, r < n → (Lit.int k (intC w A (r * row.length + c))).wf = true

theorem slice_open {t el : TypeId} {row : List RK} {d : Nat} (ht : P.underlying t = some (.slice el)) (hrow : rowOf P d el = some row) (hcl : P.cellsOf el = row.length) {v : Value} {r : Reach} {b0 : Nat} (hv : Value.okWide P w r b0 t v) {D : DataW H} {p : List MemPlace} (h : DataW.Trod enc P w base spare held t v D p) :
    ∃ A n cap, Slc w v row A n cap := by
  obtain ⟨A, n, cap, rfl⟩ := okWide_slice ht hv
  obtain ⟨fuel, hf⟩ := h
  rcases open_slice ht hf with ⟨h0, _⟩ | ⟨a, len, cap', m, n', D', Pl, h0, hb, hl, hm, hmm, _, hi⟩
  · have : A = none ∧ n = 0 ∧ cap = 0 := by simp [Value.cells] at h0; exact h0
    obtain ⟨rfl, rfl, rfl⟩ := this
    refine ⟨none, 0, 0, rfl, Nat.le_refl _, by omega, fun e => ⟨fun j v hv => ?_, fun es k hk => by cases hk⟩, fun c k _ r hr => by omega⟩
    simp [Con.cell] at hv
  · have : A = some a ∧ n = len ∧ cap = cap' := by simp [Value.cells] at h0; exact h0
    obtain ⟨rfl, rfl, rfl⟩ := this
    have hlm : n ≤ m := by rw [hmm]; split <;> omega
    have hcell : ∀ r, r < n → ∀ (c : Nat) (k : RK), row[c]? = some k → ∃ u, w.cell? (a.add (r * row.length + c)) = some u ∧ NumIs u k := by
      intro r hr c k hk
      obtain ⟨cs', hc, ht'⟩ := hi r (by omega)
      obtain ⟨_, hcl', hat⟩ := World.cells?_some hc
      obtain ⟨h1, h2⟩ := row_open d hrow ht'
      obtain ⟨u, hu, hn⟩ := h2 c k hk
      have hcr : c < row.length := (List.getElem?_eq_some_iff.1 hk).1
      have h3 := hat c (by omega)
      rw [add_add, hcl, hu] at h3
      exact ⟨u, h3, hn⟩
    refine ⟨some a, n, cap, rfl, hl, by unfold maxLen at hm; omega, fun e => ⟨fun j v hv => ?_, fun es k hk => by cases hk⟩, fun c k hk r hr => ?_⟩
    · simp only [Con.cell, colsC_len] at hv
      split at hv
      · rename_i hlt
        rw [colsC_get, Nat.zero_add] at hv
        cases hk : row[j % row.length]? with
        | none => rw [hk] at hv; cases hv
        | some k =>
          rw [hk] at hv
          cases hv
          obtain ⟨u, hu, hn⟩ := hcell _ hlt _ k hk
          have hj : j / row.length * row.length + j % row.length = j := by rw [Nat.mul_comm]; exact Nat.div_add_mod j row.length
          refine ⟨a, rfl, ?_, fun h => by cases h⟩
          rw [← hj, hu, hj]
          congr 1
          cases k with
          | some k =>
            obtain ⟨z, rfl, _⟩ := hn
            simp only [colC, Col.at_, intC, hu]
          | none =>
            obtain ⟨z, rfl⟩ := hn
            simp only [colC, Col.at_, boolC, hu]
      · cases hv
    · obtain ⟨u, hu, z, rfl, hw⟩ := hcell r hr c (some k) hk
      simp only [intC, hu]; exact hw

/-- A struct, or an array, of numbers and bools by value. -/
theorem agg_open {t : TypeId} {row : List RK} {d : Nat} {v : Value} (hrow : rowOf P d t = some row) (hagg : (match P.underlying t with | some (.struct _) | some (.array _ _) => true | _ => false) = true) {r : Reach} {b0 : Nat} (hv : Value.okWide P w r b0 t v)
    {D : DataW H} {p : List MemPlace} (h : DataW.Trod enc P w base spare held t v D p) : ∃ cs : List Value, v = .agg cs.toArray ∧ cs.length = row.length ∧ ∀ (j : Nat) (k : RK), row[j]? = some k → ∃ u, cs[j]? = some u ∧ NumIs u k := by
  have hv' : ∃ cs : Array Value, v = .agg cs := by
    split at hagg
    · rename_i fs hd
      obtain ⟨cs, h1, _⟩ := okWide_struct hd hv
      exact ⟨cs, h1⟩
    · rename_i n el hd
      simp only [Value.okWide, hd] at hv
      obtain ⟨cs, h1, _⟩ := hv
      exact ⟨cs, h1⟩
    · cases hagg
  obtain ⟨cs, rfl⟩ := hv'
  obtain ⟨fuel, hf⟩ := h
  obtain ⟨h1, h2⟩ := row_open d hrow hf
  exact ⟨cs.toList, by simp, h1, h2⟩

def ListIs : List Value → List RK → Prop
  | [], [] => True
  | v :: vs, k :: ks => NumIs v k ∧ ListIs vs ks
  | _, _ => False
theorem listIs_of : ∀ {cs : List Value} {ks : List RK}, cs.length = ks.length → (∀ (j : Nat) (k : RK), ks[j]? = some k → ∃ u, cs[j]? = some u ∧ NumIs u k) → ListIs cs ks
  | [], [], _, _ => trivial
  | v :: vs, k :: ks, hl, h => by
    refine ⟨?_, listIs_of (by simpa using hl) fun j k' hj => ?_⟩
    · obtain ⟨u, hu, hn⟩ := h 0 k rfl
      simp at hu; subst hu; exact hn
    · obtain ⟨u, hu, hn⟩ := h (j + 1) k' (by simpa using hj)
      exact ⟨u, by simpa using hu, hn⟩
  | [], _ :: _, hl, _ | _ :: _, [], hl, _ => by simp at hl
theorem listIs_cons {cs : List Value} {k : RK} {ks : List RK} (h : ListIs cs (k :: ks)) : ∃ v vs, cs = v :: vs ∧ NumIs v k ∧ ListIs vs ks := by
  cases cs with
  | nil => exact h.elim
  | cons v vs => exact ⟨v, vs, rfl, h⟩
theorem listIs_nil {cs : List Value} (h : ListIs cs []) : cs = [] := by
  cases cs with
  | nil => rfl
  | cons v vs => exact h.elim

/-- Regions that came in, all for reading. -/
theorem rel_ro {e : Env} {m : Mem} (h : ∀ (i : Nat) (r : Reg), m[i]? = some (some r) → r.rw = false ∧ RegOK e w (e i) r) (hO : ROs e w (fun _ => False) m) : Rel e w (fun _ => False) m w :=
  ⟨Fr.refl _ _, fun i r hi => (h i r hi).2, fun i j ri rj a b _ hi _ hrw => (by rw [(h i ri hi).1] at hrw; cases hrw), fun i r a hi hrw => (by rw [(h i r hi).1] at hrw; cases hrw), Objs.empty fun i x I ⟨t, hi⟩ => (by have := (h i _ hi).1; cases this), hO⟩

/-- the answer of a law -/
def yes (v : SV) (_ : Mem) : Prop := isRes (.one (.a .tt)) v

theorem law_calls (hm : P.follows .mixedOrders = true) {f : FuncId} {fn : Func} (hf : P.funcs[f]? = some fn) {cx : Cx P} {args : List SV} {m : Mem} (h : Runs cx fn args m yes) {e : Env} (hrel : Rel e w (fun _ => False) m w) (hn : cx.n0 ≤ m.length) {vs : Array Value} (hvs : vs = (args.map (SV.den e)).toArray) :
    Calls P f vs w fun r w' => r = .returned (.bool true) ∧ Below w.heap.size w w' := by
  rw [hvs]
  refine (runs_sound hm hf h hrel hn).mono fun r w' ⟨v, m', e', h1, h2, h3, _⟩ => ⟨?_, ?_⟩
  · rw [h2, ← isRes_den (e := e') h1]; rfl
  · exact ⟨h3.fr.os, h3.fr.tape, h3.fr.output, h3.fr.size, fun k hk => h3.fr.block k hk (fun h => h)⟩

end

section
variable {H : Type} {enc : TypeId × Value → H} {P : Program}

theorem trodAll_stays (hl : laidOutB P = true) {W W' : World} {sp : Nat → Bool} (hb : Below W.heap.size W W') : ∀ {ts : List TypeId} {vs : List Value} {ds : List (DataW H)} {ps : List MemPlace}, (∀ t ∈ ts, P.readableRec t = true ∧ t < P.types.size) →
    DataW.TrodAll enc P W 0 (fun _ => true) true ts vs ds ps → (∀ x ∈ ps, x.block < W.heap.size ∧ sp x.block = true) → DataW.TrodAll enc P W' 0 sp true ts vs ds ps
  | [], vs, ds, ps, _, h, _ => by
    obtain ⟨rfl, rfl, rfl⟩ := trodAll_nil h
    exact trodAll_mk0
  | t :: ts, vs, ds, ps, ht, h, hx => by
    obtain ⟨v, vs', d, ds', p, q, rfl, rfl, rfl, h1, h2⟩ := trodAll_cons h
    obtain ⟨hr, hrow⟩ := ht t List.mem_cons_self
    refine trodAll_cons_mk ?_ (trodAll_stays hl hb (fun t' ht' => ht t' (List.mem_cons_of_mem _ ht')) h2 fun x hxq => hx x (List.mem_append.2 (.inr hxq)))
    exact WideElems.Trod_stays hl hr hrow h1 (fun x hxp => hb.same (hx x (List.mem_append.2 (.inl hxp))).1) (fun x hxp => (hx x (List.mem_append.2 (.inl hxp))).2)

/-- The row's last step: behind the call all that was there is as it was. -/
theorem law_post {f : Func} {s : ChangeSpec} {apart : Bool} {W W' : World} {args : Array Value} {ds gs : List (DataW H)} {before : List MemPlace} {tb : TypeId} (hW : DataW.Whole enc P f.params.toList s.vars apart W args.toList ds gs before) (hvars : s.vars = [])
    (hs : s.fn H (ds ++ gs) = { results := [.lit (.bool true)], args := ds }) (hl : laidOutB P = true) (hpar : ∀ t ∈ f.params.toList, P.readableRec t = true ∧ t < P.types.size) (hres : f.resultTypes = #[tb]) (htb : P.underlying tb = some .bool) (hb : Below W.heap.size W W') :
    s.post enc P f apart true false false W args (.bool true) W' := by
  have hlt : ∀ p ∈ before, p.block < W.heap.size := fun p hp => hW.lt p hp
  have hW' := hW
  obtain ⟨p, q, hA, hV, rfl, hz, hn⟩ := hW
  rw [hvars] at hV
  obtain ⟨rfl, rfl⟩ := trodVars_none hV
  have hargs : ∀ sp : Nat → Bool, (∀ x ∈ p ++ [], sp x.block = true) → DataW.TrodAll enc P W' 0 sp true f.params.toList args.toList ds p := fun sp hsp =>
    trodAll_stays hl hb hpar hA fun x hx => ⟨hlt x (by simpa using hx), hsp x (by simpa using hx)⟩
  have hold : ∀ x ∈ p ++ [], (fun b => decide (b < W.heap.size)) x.block = true := fun x hx => by simpa using hlt x hx
  refine ⟨ds, [], p ++ [], [], p, [], hW', ?_, ?_, ?_, World.keptBut_mono (fun x hx => ⟨hx, ?_⟩) (hb.frame (· ∈ p ++ [])), fun h => (by cases h)⟩
  · rw [hs, hres]
    exact trodAll_mk1 (shut_bool htb _)
  · rw [hs]
    exact hargs _ hold
  · rw [hvars, hs]; rfl
  · exact .inr (.inl (by simpa using hx))

end
end Go.Sx

/-
  Part 16a: the text's order of a region, checked quickly (by sets as numbers).
-/
namespace Go.Sx
open Go.RowKit

def opMask : List Nat → Nat
  | [] => 0
  | d :: l => Nat.lor (Nat.shiftLeft 1 d) (opMask l)
theorem testBit_mask (d : Nat) : ∀ l : List Nat, d ∈ l → (opMask l).testBit d = true
  | [], h => absurd h (by simp)
  | e :: l, h => by
    show ((1 <<< e) ||| opMask l).testBit d = true
    rw [Nat.testBit_or]
    rcases List.mem_cons.1 h with h | h
    · subst h
      rw [Nat.one_shiftLeft, Nat.testBit_two_pow_self]; rfl
    · rw [testBit_mask d l h, Bool.or_true]
def rowA (o : Oper) : Nat := opMask ((o.after.toList.filter (Region.binds .any)).map (·.on))
def rowL (ops : Array Oper) (o : Oper) : Nat := opMask (o.looksAt ops)
def rowD (o : Oper) : Nat := match o.dst with | some d => Nat.shiftLeft 1 d | none => 0
def apartM (ops : Array Oper) (x y : Oper) : Bool := Nat.beq (Nat.land (rowD x) (rowL ops y)) 0 && Nat.beq (Nat.land (rowD x) (rowD y)) 0 && Nat.beq (Nat.land (rowD y) (rowL ops x)) 0
theorem land_one {d m : Nat} (h : Nat.land (Nat.shiftLeft 1 d) m = 0) : m.testBit d = false := by
  have h1 : ((1 <<< d) &&& m).testBit d = false := by
    show (Nat.land (Nat.shiftLeft 1 d) m).testBit d = false
    rw [h]; exact Nat.zero_testBit d
  rw [Nat.testBit_and, Nat.one_shiftLeft, Nat.testBit_two_pow_self, Bool.true_and] at h1
  exact h1
theorem not_mem {d : Nat} {l : List Nat} (h : (opMask l).testBit d = false) : l.contains d = false := by
  cases h1 : l.contains d with
  | false => rfl
  | true => rw [testBit_mask d l (List.contains_iff_mem.1 h1)] at h; cases h
theorem apartM_ok {ops : Array Oper} {x y : Oper} (h : apartM ops x y = true) : x.apart ops y = true := by
  simp only [apartM, Bool.and_eq_true] at h
  obtain ⟨⟨h1, h2⟩, h3⟩ := h
  replace h1 := Nat.eq_of_beq_eq_true h1
  replace h2 := Nat.eq_of_beq_eq_true h2
  replace h3 := Nat.eq_of_beq_eq_true h3
  unfold Oper.apart
  cases hx : x.dst with
  | none =>
    cases hy : y.dst with
    | none => rfl
    | some e =>
      have e2 : rowD y = Nat.shiftLeft 1 e := by unfold rowD; rw [hy]
      rw [e2] at h3
      have g3 := not_mem (land_one h3)
      simp only [g3]; rfl
  | some d =>
    have e1 : rowD x = Nat.shiftLeft 1 d := by unfold rowD; rw [hx]
    rw [e1] at h1 h2
    have g1 := not_mem (land_one h1)
    cases hy : y.dst with
    | none => simp only [g1]; rfl
    | some e =>
      have e2 : rowD y = Nat.shiftLeft 1 e := by unfold rowD; rw [hy]
      rw [e2] at h2 h3
      have g3 := not_mem (land_one h3)
      have hne : e ≠ d := fun he => by
        subst he
        have := land_one h2
        rw [show Nat.shiftLeft 1 e = 1 <<< e from rfl, Nat.one_shiftLeft, Nat.testBit_two_pow_self] at this
        cases this
      have g2 : (some e != some d) = true := by simp [bne, hne]
      simp only [g1, g2, g3]; rfl
def lexL (ops : Array Oper) : List Oper → Nat → Bool
  | [], _ => true
  | o :: l, k => Nat.beq (Nat.shiftRight (rowA o) k) 0 && l.all (fun oj => (rowA oj).testBit k || apartM ops o oj) && lexL ops l (k + 1)
theorem row_lt {o : Oper} {k : Nat} (h : Nat.shiftRight (rowA o) k = 0) {e : Edge} (he : e ∈ o.after) (hb : Region.binds .any e = true) : e.on < k := by
  rcases Nat.lt_or_ge e.on k with h1 | h1
  · exact h1
  · exfalso
    have h2 : (rowA o).testBit e.on = true := testBit_mask _ _ (List.mem_map.2 ⟨e, List.mem_filter.2 ⟨Array.mem_toList_iff.2 he, hb⟩, rfl⟩)
    have h3 : ((rowA o) >>> k).testBit (e.on - k) = (rowA o).testBit e.on := by
      rw [Nat.testBit_shiftRight]; congr 1; omega
    rw [show (rowA o) >>> k = 0 from h, Nat.zero_testBit, h2] at h3
    cases h3
theorem mask_mem : ∀ {l : List Nat} {d : Nat}, (opMask l).testBit d = true → d ∈ l
  | [], d, h => by rw [show opMask [] = 0 from rfl, Nat.zero_testBit] at h; cases h
  | e :: l, d, h => by
    have h : ((1 <<< e) ||| opMask l).testBit d = true := h
    rw [Nat.testBit_or, Nat.one_shiftLeft, Nat.testBit_two_pow, Bool.or_eq_true] at h
    rcases h with h | h
    · have : e = d := of_decide_eq_true h
      subst this; exact List.mem_cons_self
    · exact List.mem_cons_of_mem _ (mask_mem h)
theorem row_mem {o : Oper} {k : Nat} (h : (rowA o).testBit k = true) : o.after.any (fun e => Region.binds .any e && e.on == k) = true := by
  obtain ⟨e, he, hk⟩ := List.mem_map.1 (mask_mem h)
  obtain ⟨h1, h2⟩ := List.mem_filter.1 he
  exact Array.any_eq_true'.2 ⟨e, Array.mem_toList_iff.1 h1, by rw [h2, hk]; simp⟩
theorem lexL_ok {ops : Array Oper} : ∀ (l : List Oper) (k : Nat) (listed : Array Bool), (∀ j, l[j]? = ops[k + j]?) → k + l.length = ops.size → listed.size = ops.size → (∀ i, i < ops.size → listed.getD i true = decide (i < k)) →
    lexL ops l k = true → Region.lexFrom .any ops l.length k listed = true
  | [], k, listed, _, hk, hs, hi, _ => by
    show (Region.ready .any ops listed).isEmpty = true
    rw [List.isEmpty_iff]
    unfold Region.ready
    rw [List.filter_eq_nil_iff]
    intro i hm
    have hm := List.mem_range.1 hm
    have : i < k := by simp at hk; omega
    rw [hi i hm, decide_eq_true this]
    simp
  | o :: l, k, listed, hl, hk, hs, hi, h => by
    simp only [lexL, Bool.and_eq_true, List.all_eq_true] at h
    obtain ⟨⟨h1, h2⟩, h3⟩ := h
    replace h1 := Nat.eq_of_beq_eq_true h1
    have hk' : k < ops.size := by simp at hk; omega
    have h0 : ops[k]? = some o := by have := hl 0; simpa using this.symm
    show ((Region.ready .any ops listed).contains k && Region.free .any ops listed k && Region.lexFrom .any ops l.length (k + 1) (listed.setIfInBounds k true)) = true
    have a1 : (Region.ready .any ops listed).contains k = true := by
      rw [List.contains_iff_mem]
      unfold Region.ready
      rw [List.mem_filter]
      refine ⟨List.mem_range.2 hk', ?_⟩
      rw [hi k hk', h0]
      have : o.after.all (fun e => !Region.binds .any e || listed.getD e.on false) = true := by
        rw [Array.all_eq_true_iff_forall_mem]
        intro e he
        cases hb : Region.binds .any e with
        | false => rfl
        | true =>
          have := row_lt h1 he hb
          have hlt : e.on < listed.size := by omega
          have h9 := hi e.on (by omega)
          rw [decide_eq_true this] at h9
          rw [Array.getD_eq_getD_getElem?, Array.getElem?_eq_getElem hlt] at h9 ⊢
          simpa using h9
      rw [decide_eq_false (Nat.lt_irrefl k), Option.map_some, Option.getD_some, this]; rfl
    have a2 : Region.free .any ops listed k = true := by
      unfold Region.free
      rw [h0]
      simp only [List.all_eq_true, List.mem_range]
      intro j hj
      rcases Nat.lt_trichotomy j k with h9 | h9 | h9
      · rw [hi j hj, decide_eq_true h9]; simp
      · subst h9; simp
      · have hjl : l[j - (k + 1)]? = ops[j]? := by
          have := hl (j - k)
          rw [show k + (j - k) = j by omega] at this
          rw [← this, show j - k = (j - (k + 1)) + 1 by omega]; rfl
        have hoj : ops[j]? = some (ops[j]'hj) := Array.getElem?_eq_getElem hj
        rw [hoj] at hjl ⊢
        have := h2 _ (List.mem_of_getElem? hjl)
        rw [Bool.or_eq_true] at this
        rcases this with h8 | h8
        · have := row_mem h8
          simp only [this]; simp
        · have := apartM_ok h8
          simp only [this]; simp
    have a3 := lexL_ok l (k + 1) (listed.setIfInBounds k true) (fun j => by have := hl (j + 1); rw [show k + 1 + j = k + (j + 1) by omega, ← this]; rfl) (by simp at hk; omega) (by simp [hs]) (fun i hi' => by
      rw [Array.getD_eq_getD_getElem?]
      by_cases hik : i = k
      · subst hik
        rw [Array.getElem?_setIfInBounds_self_of_lt (by omega)]; simp
      · rw [Array.getElem?_setIfInBounds_ne (by omega), ← Array.getD_eq_getD_getElem?, hi i hi', decide_eq_decide]; omega) h3
    rw [a1, a2, a3]; rfl
def noSel : List Oper → Bool
  | [] => true
  | o :: l => (match o.op with | .select .. => false | _ => true) && noSel l
theorem noSel_ok : ∀ {l : List Oper}, noSel l = true → l.all (fun o => match o.op with | .select .. => false | _ => true) = true
  | [], _ => rfl
  | o :: l, h => by
    simp only [noSel, Bool.and_eq_true] at h
    rw [List.all_cons, noSel_ok h.2, Bool.and_true]; exact h.1
theorem lex_quick {ops : Array Oper} (h : (noSel ops.toList && lexL ops ops.toList 0) = true) : Region.lexB .any ops = true := by
  rw [Bool.and_eq_true] at h
  have h1 : Region.noSelect ops = true := by
    unfold Region.noSelect
    have := noSel_ok h.1
    rw [← Array.all_toList]; exact this
  have h2 := lexL_ok ops.toList 0 (Array.replicate ops.size false) (fun j => by simp) (by simp) (by simp) (fun i hi => by
    rw [Array.getD_eq_getD_getElem?, Array.getElem?_replicate, if_pos hi]; simp) h.2
  unfold Region.lexB
  rw [Array.length_toList] at h2
  rw [h1, h2]; rfl
end Go.Sx
