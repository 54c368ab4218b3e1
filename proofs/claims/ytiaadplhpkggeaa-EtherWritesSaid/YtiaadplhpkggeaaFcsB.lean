/-
  Contracts of functions, and plain facts about them, that a claim of this seat uses.
-/
import Derived.Test.YtiaadplhpkggeaaSx
import Derived.Laws.Strings
import Derived.Test.YtiaadplhpkggeaaFcsNum
import Derived.Test.YtiaadplhpkggeaaFcsBits
import Derived.Test.YtiaadplhpkggeaaFcsA
import Derived.Test.YtiaadplhpkggeaaProg
namespace Go.Proofs.Ytiaadplhpkggeaa
open Go.Sx
set_option linter.unusedVariables false
set_option linter.unusedSimpArgs false
set_option maxRecDepth 100000

/-! the check: Copy, Same, Close, Open, and the reference's. -/
theorem fn19 : FnOf Try.prog 19 Try.f19 := ⟨Try.func19, rfl, rfl, mixed⟩
theorem fn22 : FnOf Try.prog 22 Try.f22 := ⟨Try.func22, rfl, rfl, mixed⟩
theorem fn23 : FnOf Try.prog 23 Try.f23 := ⟨Try.func23, rfl, rfl, mixed⟩
theorem fn24 : FnOf Try.prog 24 Try.f24 := ⟨Try.func24, rfl, rfl, mixed⟩
theorem fn25 : FnOf Try.prog 25 Try.f25 := ⟨Try.func25, rfl, rfl, mixed⟩
theorem fn26 : FnOf Try.prog 26 Try.f26 := ⟨Try.func26, rfl, rfl, mixed⟩
theorem fn18 : FnOf Try.prog 18 Try.f18 := ⟨Try.func18, rfl, rfl, mixed⟩
theorem alt_l {m0 : Mem} {ρ : List Nat} {v : SV} {m : Mem} {p : Prop} {v2 : SV} {m2 : Mem} {b : Alt} {l : List Alt} (hp : p) (h : altOne m0 ρ v m v2 m2) : anyAlt m0 ρ v m (.cond p v2 m2 :: b :: l) := .inl ⟨hp, h⟩
theorem alt_r {m0 : Mem} {ρ : List Nat} {v : SV} {m : Mem} {a b : Alt} {l : List Alt} (h : anyAlt m0 ρ v m (b :: l)) : anyAlt m0 ρ v m (a :: b :: l) := .inr h
attribute [local irreducible] enter anyAlt
structure CG where
  cap : Nat
  g : Nat → Int
/-- new memory with the bytes f, n of them -/
def CB (n : Nat) (f : Nat → Int) (y : CG) : Prop := n ≤ y.cap ∧ y.cap ≤ 9223372036854775807 ∧ ∀ r, r < n → y.g r = f r
def rwB (y : CG) : Option Reg := some ⟨true, .tab y.cap [.int .u8 y.g]⟩
def newB (k : Nat) (ro : Mem) (n : Nat) (f : Nat → Int) : List Alt := [.fam CG (CB n f) (fun y => .one (.a (.slc k 1 0 n y.cap))) (fun y => ro ++ [rwB y])]
theorem Bytes.congr {f g : Nat → Int} {n : Nat} (h : Bytes f n) (e : ∀ r, r < n → g r = f r) : Bytes g n := fun r hr => by rw [e r hr]; exact h r hr
theorem CB.bw {n : Nat} {f : Nat → Int} {y : CG} (h : CB n f y) (hf : Bytes f n) : Bw ⟨n, y.cap, y.cap - 0, fun q => y.g (q + 0)⟩ := ⟨hf.congr h.2.2, h.1, h.1, h.2.1⟩
noncomputable def cx19 : Cx Try.prog := { ps := [], es := [], is := [], n0 := 1, loops := fun _ => none, cuts := fun _ => none }
theorem copy_runs (a : IS) (hp : obp (some (Bw a ∧ a.len ≤ 100000))) : Runs cx19 Try.f19 [D1 0 a] [roB a] fun v m => anyAlt [roB a] [0, v.ix] v m (newB 1 [roB a] a.len a.g) := by
  obtain ⟨⟨hb, hc, hN, hm⟩, hl⟩ : Bw a ∧ a.len ≤ 100000 := hp
  repeat' (first | with_reducible exact trivial | with_reducible exact rfl | with_reducible exact Nat.le_refl _ | with_reducible exact (fun _ _ => rfl) | ((conv => whnf); first | (refine fun _ => ?_) | refine ⟨?_, ?_⟩ | exact trivial | exact Nat.le_refl _ | exact lex_q (by kernel_rfl) | exact lex_t (by kernel_rfl) | exact lex_h (by kernel_rfl) | fail))
  any_goals (refine alt_fam (α := CG) ⟨_, _⟩ ?_ (by (repeat' (first | with_reducible exact rfl | exact Nat.le_refl _ | with_reducible exact (fun _ _ => rfl) | ((conv => whnf); first | refine ⟨?_, ?_⟩ | exact trivial | fail))); first | ((all_goals ((try dsimp only [id] at *); (all_goals (try simp (disch := omega) only [w64', wu64', tdiv_pos, tmod_pos, Int.toNat_natCast, Nat.zero_add] at *)); (all_goals ((try omega))))); done) | fail))
  all_goals (try dsimp only [cutR, cutL, id] at *)
  all_goals (try simp (disch := omega) only [w64', wu64', tdiv_pos, tmod_pos, Int.toNat_natCast, Nat.zero_add] at *)
  all_goals (try omega)
  all_goals exact ⟨by omega, by omega, fun r hr => by dsimp only; rw [if_neg (by omega), if_pos (by omega)]; rfl⟩
noncomputable def copyS : ESpec Try.prog := newN fn19 (.s1 dB) (fun _ => cx19) (fun a => some (Bw a ∧ a.len ≤ 100000)) (fun a => newB 1 [roB a] a.len a.g) (fun _ v _ => [0, v.ix]) (fun _ => rfl) (fun x a ha => by rw [List.mem_singleton.1 ha]; exact fun _ => rfl) copy_runs
def sameB (a b : IS) : Bool := (bytesOf a.g 0 a.len).toList == (bytesOf b.g 0 b.len).toList
theorem bytesOf_list (g : Nat → Int) (r len : Nat) : (bytesOf g r len).toList = (List.range len).map fun q => UInt8.ofNat (g (r + q)).toNat := by
  rw [ByteArray.toList_eq]
  unfold bytesOf
  have key : ∀ (l : List Int) (s : ByteArray), (l.foldl (fun s n => s.push (UInt8.ofNat n.toNat)) s).data.toList = s.data.toList ++ l.map fun n => UInt8.ofNat n.toNat := by
    intro l
    induction l with
    | nil => intro s; simp
    | cons x l ih =>
      intro s
      rw [List.foldl_cons, ih]
      show (s.data.push _).toList ++ _ = _
      simp
  rw [key]
  show [] ++ _ = _
  rw [List.nil_append, List.map_map]
  rfl
theorem sameB_iff {a b : IS} (ha : Bytes a.g a.len) (hb : Bytes b.g b.len) : sameB a b = true ↔ a.len = b.len ∧ ∀ r, r < a.len → a.g r = b.g r := by
  unfold sameB
  rw [bytesOf_list, bytesOf_list, beq_iff_eq]
  constructor
  · intro h
    have hl := congrArg List.length h
    simp only [List.length_map, List.length_range] at hl
    refine ⟨hl, fun r hr => ?_⟩
    have h2 := congrArg (fun l => l[r]?) h
    simp only [List.getElem?_map, List.getElem?_range hr, List.getElem?_range (show r < b.len by omega), Option.map_some, Option.some.injEq, Nat.zero_add] at h2
    have h3 := congrArg UInt8.toNat h2
    have h4 := ha r hr
    have h5 := hb r (by omega)
    simp only [UInt8.toNat_ofNat'] at h3
    omega
  · rintro ⟨hl, h⟩
    rw [← hl]
    apply List.map_congr_left
    intro q hq
    rw [List.mem_range] at hq
    rw [Nat.zero_add, h q hq]
noncomputable def cx22 : Cx Try.prog := { ps := [], es := [], is := [], n0 := 2, loops := fun _ => none, cuts := fun _ => none }
theorem same_runs (x : IS × IS) (hp : obp (some (Bw x.1 ∧ Bw x.2))) : Runs cx22 Try.f22 [D1 0 x.1, D1 1 x.2] [roB x.1, roB x.2] fun v _ => isRes (.one (.a (.v (.bool (sameB x.1 x.2))))) v := by
  obtain ⟨a, b⟩ := x
  obtain ⟨⟨ha, ha2, ha3, ha4⟩, hb, hb2, hb3, hb4⟩ := hp
  dsimp only at *
  repeat' (first | with_reducible exact trivial | with_reducible exact rfl | with_reducible exact Nat.le_refl _ | with_reducible exact (fun _ _ => rfl) | ((conv => whnf); first | (refine fun _ => ?_) | refine ⟨?_, ?_⟩ | exact trivial | exact Nat.le_refl _ | exact lex_q (by kernel_rfl) | exact lex_t (by kernel_rfl) | exact lex_h (by kernel_rfl) | fail))
  all_goals (try dsimp only at *)
  all_goals (try omega)
  all_goals rfl
noncomputable def sameS : PSpec Try.prog := readN fn22 (.s2 dB dB) (fun _ => cx22) (fun x => some (Bw x.1 ∧ Bw x.2)) (fun x => .one (.a (.v (.bool (sameB x.1 x.2))))) (fun _ => rfl) (fun _ => rfl) (fun _ => rfl) same_runs
noncomputable def cx23 : Cx Try.prog := { ps := [sumS], es := [], is := [], n0 := 1, loops := fun _ => none, cuts := fun _ => none }
theorem close_runs (a : IS) (hp : obp (some (Bw a ∧ a.len ≤ 100000))) : Runs cx23 Try.f23 [D1 0 a] [roB a] fun v m => anyAlt [roB a] [0, v.ix] v m (newB 1 [roB a] (a.len + 4) (clG a.g a.len)) := by
  obtain ⟨⟨hb, hc, hN, hm⟩, hl⟩ : Bw a ∧ a.len ≤ 100000 := hp
  have hcr := crcI_bd hb
  repeat' (first | with_reducible exact trivial | with_reducible exact rfl | with_reducible exact Nat.le_refl _ | with_reducible exact (fun _ _ => rfl) | ((conv => whnf); first | (refine fun _ => ?_) | refine ⟨?_, ?_⟩ | exact trivial | exact Nat.le_refl _ | exact lex_q (by kernel_rfl) | exact lex_t (by kernel_rfl) | exact lex_h (by kernel_rfl) | fail))
  any_goals (refine alt_fam (α := CG) ⟨_, _⟩ ?_ (by (repeat' (first | with_reducible exact rfl | exact Nat.le_refl _ | with_reducible exact (fun _ _ => rfl) | ((conv => whnf); first | refine ⟨?_, ?_⟩ | exact trivial | fail))); first | ((all_goals ((try dsimp only [id] at *); (all_goals (try simp (disch := omega) only [w64', wu64', tdiv_pos, tmod_pos, Int.toNat_natCast, Nat.zero_add] at *)); (all_goals ((try omega))))); done) | fail))
  all_goals (try dsimp only [cutR, cutL, id] at *)
  all_goals (try simp (disch := omega) only [fdiv_nn, Int.reduceToNat, IntKind.bits, Nat.min_def, Nat.reduceLeDiff, if_true, if_false, Int.reducePow, wu8, wu32, w64', wu64', tdiv_pos, tmod_pos, Int.toNat_natCast, Nat.zero_add] at *)
  all_goals (try omega)
  all_goals (try first
    | exact (hb _ (by assumption)).1
    | exact (hb _ (by assumption)).2)
  refine ⟨by omega, by omega, fun r hr => ?_⟩
  have hl0 : crcI (fun q => a.g (q + 0)) a.len = crcI a.g a.len := rfl
  dsimp only
  rcases (by omega : r < a.len ∨ r = a.len ∨ r = a.len + 1 ∨ r = a.len + 2 ∨ r = a.len + 3) with h | h | h | h | h
  · rw [clG_old h, if_pos h, if_neg (by omega), if_pos h]; rfl
  · subst h
    rw [clG_0, if_neg (by omega), if_pos (by omega), Nat.sub_self, hl0]; rfl
  · subst h
    rw [clG_1, if_neg (by omega), if_pos (by omega), Nat.add_sub_cancel_left, hl0]; rfl
  · subst h
    rw [clG_2, if_neg (by omega), if_pos (by omega), Nat.add_sub_cancel_left, hl0]; rfl
  · subst h
    rw [clG_3, if_neg (by omega), if_pos (by omega), Nat.add_sub_cancel_left, hl0]; rfl
noncomputable def closeS : ESpec Try.prog := newN fn23 (.s1 dB) (fun _ => cx23) (fun a => some (Bw a ∧ a.len ≤ 100000)) (fun a => newB 1 [roB a] (a.len + 4) (clG a.g a.len)) (fun _ v _ => [0, v.ix]) (fun _ => rfl) (fun x a ha => by rw [List.mem_singleton.1 ha]; exact fun _ => rfl) close_runs
noncomputable def cx24 (a : IS) : Cx Try.prog := { ps := [rsumS], es := [], is := [], n0 := 1, loops := fun i => match i with | 4 => some (.rounds 5) | _ => none, cuts := fun _ => none }
set_option maxHeartbeats 4000000 in
theorem rclose_runs (a : IS) (hp : obp (some (Bw a ∧ a.len ≤ 100000))) : Runs (cx24 a) Try.f24 [D1 0 a] [roB a] fun v m => anyAlt [roB a] [0, v.ix] v m (newB 1 [roB a] (a.len + 4) (clG a.g a.len)) := by
  obtain ⟨⟨hb, hc, hN, hm⟩, hl⟩ : Bw a ∧ a.len ≤ 100000 := hp
  have hcr := crcI_bd hb
  repeat' (first | with_reducible exact trivial | with_reducible exact rfl | with_reducible exact Nat.le_refl _ | with_reducible exact (fun _ _ => rfl) | ((conv => whnf); first | (refine fun _ => ?_) | refine ⟨?_, ?_⟩ | exact trivial | exact Nat.le_refl _ | exact lex_q (by kernel_rfl) | exact lex_t (by kernel_rfl) | exact lex_h (by kernel_rfl) | fail))
  any_goals (refine alt_fam (α := CG) ⟨_, _⟩ ?_ (by (repeat' (first | with_reducible exact rfl | exact Nat.le_refl _ | with_reducible exact (fun _ _ => rfl) | ((conv => whnf); first | refine ⟨?_, ?_⟩ | exact trivial | fail))); first | ((all_goals ((try dsimp only [id] at *); (all_goals (try simp (disch := omega) only [w64', wu64', tdiv_pos, tmod_pos, Int.toNat_natCast, Nat.zero_add] at *)); (all_goals ((try omega))))); done) | fail))
  all_goals (try dsimp only [cutR, cutL, id] at *)
  all_goals (try simp (disch := omega) only [fdiv_nn, Int.reduceToNat, IntKind.bits, Nat.min_def, Nat.reduceLeDiff, if_true, if_false, Int.reducePow, wu8, wu32, w64', wu64', tdiv_pos, tmod_pos, Int.toNat_natCast, Nat.zero_add] at *)
  all_goals (try omega)
  all_goals (try first
    | exact (hb _ (by assumption)).1
    | exact (hb _ (by assumption)).2)
  refine ⟨by omega, by omega, fun r hr => ?_⟩
  have hl0 : crcI (fun q => a.g (q + 0)) a.len = crcI a.g a.len := rfl
  dsimp only
  rw [hl0]
  simp only [tdiv_pos hcr.1, tmod_pos hcr.1]
  rcases (by omega : r < a.len ∨ r = a.len ∨ r = a.len + 1 ∨ r = a.len + 2 ∨ r = a.len + 3) with h | h | h | h | h
  · rw [clG_old h, if_pos (by omega), if_pos (by omega), if_pos (by omega), if_pos h, if_neg (by omega), if_pos h]; rfl
  · subst h
    rw [clG_0, if_pos (by omega), if_pos (by omega), if_pos (by omega), if_neg (by omega), if_pos (by omega), Nat.sub_self, List.getD_cons_zero]; omega
  · subst h
    rw [clG_1, if_pos (by omega), if_pos (by omega), if_neg (by omega), if_pos (by omega), Nat.sub_self, List.getD_cons_zero]; omega
  · subst h
    rw [clG_2, if_pos (by omega), if_neg (by omega), if_pos (by omega), show a.len + 2 - (a.len + 1 + 1) = 0 by omega, List.getD_cons_zero]; omega
  · subst h
    rw [clG_3, if_neg (by omega), if_pos (by omega), show a.len + 3 - (a.len + 1 + 1 + 1) = 0 by omega, List.getD_cons_zero]; omega
noncomputable def rcloseS : ESpec Try.prog := newN fn24 (.s1 dB) cx24 (fun a => some (Bw a ∧ a.len ≤ 100000)) (fun a => newB 1 [roB a] (a.len + 4) (clG a.g a.len)) (fun _ v _ => [0, v.ix]) (fun _ => rfl) (fun x a ha => by rw [List.mem_singleton.1 ha]; exact fun _ => rfl) rclose_runs
theorem Bw.out {a : IS} (h : Bw a) : Bytes a.g a.len ∧ a.len ≤ a.cap ∧ a.len ≤ a.N ∧ a.cap ≤ 9223372036854775807 := h
theorem Bw.self {a : IS} (h : Bw a) : Bw ⟨a.len, a.cap, a.N - 0, fun q => a.g (q + 0)⟩ := h
theorem Bw.sub {a : IS} (h : Bw a) {n : Nat} (hn : n ≤ a.len) : Bw ⟨n, a.cap, a.N - 0, fun q => a.g (q + 0)⟩ := ⟨fun r hr => h.1 r (by show r < a.len; exact Nat.lt_of_lt_of_le hr hn), Nat.le_trans hn h.2.1, Nat.le_trans hn h.2.2.1, h.2.2.2⟩
theorem CB.len {n : Nat} {f : Nat → Int} {y : CG} (h : CB n f y) : n ≤ y.cap ∧ y.cap ≤ 9223372036854775807 := ⟨h.1, h.2.1⟩
theorem bw_nil {cap : Nat} {z : Nat → Int} : Bw ⟨0, 0, cap - cap, z⟩ := ⟨fun r hr => absurd hr (Nat.not_lt_zero r), Nat.le_refl _, Nat.zero_le _, by show (0 : Nat) ≤ _; exact Nat.zero_le _⟩
theorem same_cb {a b : IS} {n : Nat} {f : Nat → Int} (ha : Bw a) (hb : Bw b) (h1 : a.len = n) (h2 : b.len = n) (h3 : ∀ r, r < n → a.g r = f r) (h4 : ∀ r, r < n → b.g r = f r) : sameB a b = true :=
  (sameB_iff ha.1 hb.1).2 ⟨h1.trans h2.symm, fun r hr => (h3 r (by omega)).trans (h4 r (by omega)).symm⟩
theorem Bw.mk {a : IS} (h1 : Bytes a.g a.len) (h2 : a.len ≤ a.cap) (h3 : a.len ≤ a.N) (h4 : a.cap ≤ 9223372036854775807) : Bw a := ⟨h1, h2, h3, h4⟩

end Go.Proofs.Ytiaadplhpkggeaa
