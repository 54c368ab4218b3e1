/-
  Contracts of functions, and plain facts about them, that a claim of this seat uses.
-/
import Derived.Test.YtiaadplhpkggeaaSx
import Derived.Test.YtiaadplhpkggeaaFcsNum
import Derived.Test.YtiaadplhpkggeaaFcsBits
import Derived.Test.YtiaadplhpkggeaaFcsA
import Derived.Test.YtiaadplhpkggeaaFcsB
import Derived.Test.YtiaadplhpkggeaaFcsIn
import Derived.Test.YtiaadplhpkggeaaFcsC
import Derived.Test.YtiaadplhpkggeaaFcsJ
import Derived.Test.YtiaadplhpkggeaaFcsH
import Derived.Test.YtiaadplhpkggeaaEthNum
import Derived.Test.YtiaadplhpkggeaaProg
namespace Go.Proofs.Ytiaadplhpkggeaa
open Go.Sx
set_option linter.unusedVariables false
set_option linter.unusedSimpArgs false
set_option maxRecDepth 100000

/-! frames: Check, Size, Encode. -/
theorem fn29 : FnOf Try.prog 29 Try.f29 := ⟨Try.func29, rfl, rfl, mixed⟩
theorem fn38 : FnOf Try.prog 38 Try.f38 := ⟨Try.func38, rfl, rfl, mixed⟩
theorem fn30 : FnOf Try.prog 30 Try.f30 := ⟨Try.func30, rfl, rfl, mixed⟩
theorem fn39 : FnOf Try.prog 39 Try.f39 := ⟨Try.func39, rfl, rfl, mixed⟩
theorem fn31 : FnOf Try.prog 31 Try.f31 := ⟨Try.func31, rfl, rfl, mixed⟩
def u8_ (n : Int) : SA := .v (.int .u8 n)
def i_ (n : Int) : SA := .v (.int .i64 n)
def b_ (b : Bool) : SA := .v (.bool b)
def frCells (f : Fr) (d : SA) : List SA := [u8_ f.a0, u8_ f.a1, u8_ f.a2, u8_ f.a3, u8_ f.a4, u8_ f.a5, u8_ f.b0, u8_ f.b1, u8_ f.b2, u8_ f.b3, u8_ f.b4, u8_ f.b5, b_ f.tg, i_ f.vid, i_ f.prio, b_ f.drop, b_ f.many, i_ f.seq, i_ f.typ, d]
def F1 (j : Nat) (f : Fr) : SV := .one (.agg (frCells f (.slc j 1 0 f.data.len f.data.cap)))
def Lens.fr : Lens Fr where
  sp := .agg [.i .u8, .i .u8, .i .u8, .i .u8, .i .u8, .i .u8, .i .u8, .i .u8, .i .u8, .i .u8, .i .u8, .i .u8, .b, .i .i64, .i .i64, .b, .b, .i .i64, .i .i64, .s [some .u8]]
  pat := fun a => match a with
    | .agg [.i .u8 a0, .i .u8 a1, .i .u8 a2, .i .u8 a3, .i .u8 a4, .i .u8 a5, .i .u8 b0, .i .u8 b1, .i .u8 b2, .i .u8 b3, .i .u8 b4, .i .u8 b5, .b tg, .i .i64 vid, .i .i64 prio, .b drop, .b many, .i .i64 seq, .i .i64 typ, .s len cap N [.int .u8 g]] => some ⟨a0, a1, a2, a3, a4, a5, b0, b1, b2, b3, b4, b5, tg, vid, prio, drop, many, seq, typ, ⟨len, cap, N, g⟩⟩
    | _ => none
  arg := fun f => .agg [.i .u8 f.a0, .i .u8 f.a1, .i .u8 f.a2, .i .u8 f.a3, .i .u8 f.a4, .i .u8 f.a5, .i .u8 f.b0, .i .u8 f.b1, .i .u8 f.b2, .i .u8 f.b3, .i .u8 f.b4, .i .u8 f.b5, .b f.tg, .i .i64 f.vid, .i .i64 f.prio, .b f.drop, .b f.many, .i .i64 f.seq, .i .i64 f.typ, .s f.data.len f.data.cap f.data.N [.int .u8 f.data.g]]
  ok := fun a x h => by
    split at h
    · cases h; rfl
    · cases h
def sf : Sig Fr := .s1 Lens.fr
def Sml (f : Fr) : Prop := f.data.len ≤ 100000
attribute [local irreducible] enter anyAlt
noncomputable def cxSiz : Cx Try.prog := { ps := [], es := [], is := [], n0 := 1, loops := fun _ => none, cuts := fun _ => none }
theorem siz_runs (f : Fr) (hp : obp (some (Sml f))) : Runs cxSiz Try.f38 [F1 0 f] [roB f.data] fun v _ => isRes (int_ .i64 (siz f)) v := by
  have h : f.data.len ≤ 100000 := hp
  repeat' (first | with_reducible exact trivial | with_reducible exact rfl | with_reducible exact Nat.le_refl _ | with_reducible exact (fun _ _ => rfl) | ((conv => whnf); first | (refine fun _ => ?_) | refine ⟨?_, ?_⟩ | exact trivial | exact Nat.le_refl _ | exact lex_q (by kernel_rfl) | exact lex_t (by kernel_rfl) | exact lex_h (by kernel_rfl) | fail))
  all_goals (try simp (disch := omega) only [fdiv_nn, Int.reduceToNat, IntKind.bits, Nat.min_def, Nat.reduceLeDiff, if_true, if_false, Int.reducePow, wu8, wu32, w64', wu64', tdiv_pos, tmod_pos, Int.toNat_natCast, Nat.zero_add] at *)
  all_goals (unfold siz; simp only [*, if_true, Bool.false_eq_true, if_false]; omega)
noncomputable def sizeS : PSpec Try.prog := readN fn38 sf (fun _ => cxSiz) (fun f => some (Sml f)) (fun f => int_ .i64 (siz f)) (fun _ => rfl) (fun _ => rfl) (fun _ => rfl) siz_runs
noncomputable def cxSize : Cx Try.prog := { ps := [sizeS], es := [], is := [], n0 := 1, loops := fun _ => none, cuts := fun _ => none }
theorem size_runs (f : Fr) (hp : obp (some (Sml f))) : Runs cxSize Try.f30 [F1 0 f] [roB f.data] fun v _ => isRes (int_ .i64 (max 64 (siz f))) v := by
  have h : f.data.len ≤ 100000 := hp
  repeat' (first | with_reducible exact trivial | with_reducible exact rfl | with_reducible exact Nat.le_refl _ | with_reducible exact (fun _ _ => rfl) | ((conv => whnf); first | (refine fun _ => ?_) | refine ⟨?_, ?_⟩ | exact trivial | exact Nat.le_refl _ | exact lex_q (by kernel_rfl) | exact lex_t (by kernel_rfl) | exact lex_h (by kernel_rfl) | fail))
  · exact h
  · show max 64 (siz f) = if 64 < siz f then siz f else 64
    split <;> omega
noncomputable def sizS : PSpec Try.prog := readN fn30 sf (fun _ => cxSize) (fun f => some (Sml f)) (fun f => int_ .i64 (max 64 (siz f))) (fun _ => rfl) (fun _ => rfl) (fun _ => rfl) size_runs
noncomputable def cxChk : Cx Try.prog := { ps := [sizeS], es := [], is := [], n0 := 1, loops := fun _ => none, cuts := fun _ => none }
set_option maxHeartbeats 4000000 in
theorem chk_runs (f : Fr) (hp : obp (some (Sml f))) : Runs cxChk Try.f29 [F1 0 f] [roB f.data] fun v _ => isRes (int_ .i64 (chk f)) v := by
  have h : f.data.len ≤ 100000 := hp
  repeat' (first | with_reducible exact trivial | with_reducible exact rfl | with_reducible exact Nat.le_refl _ | with_reducible exact (fun _ _ => rfl) | ((conv => whnf); first | (refine fun _ => ?_) | refine ⟨?_, ?_⟩ | exact trivial | exact Nat.le_refl _ | exact lex_q (by kernel_rfl) | exact lex_t (by kernel_rfl) | exact lex_h (by kernel_rfl) | fail))
  all_goals (try simp (disch := omega) only [fdiv_nn, Int.reduceToNat, IntKind.bits, Nat.min_def, Nat.reduceLeDiff, if_true, if_false, Int.reducePow, wu8, wu32, w64', wu64', tdiv_pos, tmod_pos, Int.toNat_natCast, Nat.zero_add] at *)
  all_goals first
    | exact h
    | exact chk_1 (by unfold BadN BadT; grind)
    | exact chk_23 (by unfold BadN; grind) (by unfold BadT; grind) (by grind)
    | exact chk_3 (by unfold BadN; grind) (by unfold BadT; grind) (by grind) (by assumption)
    | exact chk_ok (by unfold BadN; grind) (by unfold BadT; grind) (by grind) (by assumption)
noncomputable def chkS : PSpec Try.prog := readN fn29 sf (fun _ => cxChk) (fun f => some (Sml f)) (fun f => int_ .i64 (chk f)) (fun _ => rfl) (fun _ => rfl) (fun _ => rfl) chk_runs
def preC (f : Fr) (r : Nat) : Int := (pre f).getD r 0
def frR (f : Fr) : Option Reg := some ⟨true, .flat (frCells f (.slc 0 1 0 f.data.len f.data.cap))⟩
abbrev laH (f : Fr) : LA where
  ι := Nat × (Nat → Int)
  inv := fun y => CB (hl f) (preC f) ⟨y.1, y.2⟩
  T := fun y => ⟨61, [(1, .one (.a (.ptr 1 0))), (5, .one (.a (.slc 2 1 0 (hl f) y.1)))], [roB f.data, frR f, some ⟨true, .tab y.1 [.int .u8 y.2]⟩]⟩
  μ := fun _ => 0
  ren := fun S => [0, S.ix 1, S.ix 5]
def ht (f : Fr) : Nat := 12 + (if f.tg = true then 4 else 0)
abbrev laT (f : Fr) : LA where
  ι := Nat × (Nat → Int)
  inv := fun y => CB (ht f) (preC f) ⟨y.1, y.2⟩
  T := fun y => ⟨61, [(1, .one (.a (.ptr 1 0))), (5, .one (.a (.slc 2 1 0 (ht f) y.1)))], [roB f.data, frR f, some ⟨true, .tab y.1 [.int .u8 y.2]⟩]⟩
  μ := fun _ => 0
  ren := fun S => [0, S.ix 1, S.ix 5]
abbrev laP (f : Fr) : LA where
  ι := Nat × Nat × (Nat → Int)
  inv := fun y => (hl f + 4 + f.data.len ≤ y.1 ∧ y.1 ≤ tot f) ∧ CB y.1 (inG f) ⟨y.2.1, y.2.2⟩
  T := fun y => ⟨61, [(5, .one (.a (.slc 1 1 0 y.1 y.2.1)))], [roB f.data, some ⟨true, .tab y.2.1 [.int .u8 y.2.2]⟩]⟩
  μ := fun y => 60 - y.1
  ren := fun S => [0, S.ix 5]
noncomputable def cxTwo : Cx Try.prog := { ps := [], es := [], is := [], n0 := 0, loops := fun _ => none, cuts := fun _ => none }
noncomputable def cxEnc (f : Fr) : Cx Try.prog := { ps := [chkS], es := [closeS], is := [inl fn39 cxTwo], n0 := 1, loops := fun i => match i with | 13 => some (.inv (laP f)) | _ => none, cuts := fun i => (match i with | 10 => some (laT f) | 12 => some (laH f) | _ => none), held := fun i => (match i with | 4 => some (true, .take 0 (.take 1 (.take 3 (.take 4 (.one 2 (.one 5 (.take 6 .done))))))) | 11 => some (true, .take 0 (.take 3 (.take 4 (.one 1 (.one 2 (.one 5 (.take 6 .done))))))) | 12 => some (true, .take 0 (.take 1 (.take 2 (.take 4 (.take 5 (.take 6 (.take 8 (.take 9 (.one 3 (.one 7 (.one 10 (.take 11 .done)))))))))))) | _ => none), lose := fun i => (match i with | 11 => [2] | 12 => [2] | _ => []) }
def encAlts (f : Fr) : List Alt := [.cond (chk f ≠ 0) (.tup [.a (.v (.slice none 0 0)), .a (i_ (chk f))]) [roB f.data], .fam CG (fun y => chk f = 0 ∧ CB (tot f + 4) (clG (inG f) (tot f)) y) (fun y => .tup [.a (.slc 1 1 0 (tot f + 4) y.cap), .a (i_ 0)]) (fun y => [roB f.data, rwB y])]
theorem cb_t {f : Fr} {c : Nat} {F : Nat → Int} (h : f.tg = true) (hc : 16 ≤ c ∧ c ≤ 9223372036854775807) (e0 : F 0 = f.a0) (e1 : F 1 = f.a1) (e2 : F 2 = f.a2) (e3 : F 3 = f.a3) (e4 : F 4 = f.a4) (e5 : F 5 = f.a5) (e6 : F 6 = f.b0) (e7 : F 7 = f.b1) (e8 : F 8 = f.b2) (e9 : F 9 = f.b3) (e10 : F 10 = f.b4) (e11 : F 11 = f.b5) (e12 : F 12 = 129) (e13 : F 13 = 0) (e14 : F 14 = hi (tag f)) (e15 : F 15 = lo (tag f)) : CB (ht f) (preC f) ⟨c, F⟩ := by
  have hh : ht f = 16 := by unfold ht; rw [if_pos h]
  refine ⟨by rw [hh]; exact hc.1, hc.2, fun r hr => ?_⟩
  rw [hh] at hr
  unfold preC pre
  rw [if_pos h]
  dsimp only
  rcases (by omega : r = 0 ∨ r = 1 ∨ r = 2 ∨ r = 3 ∨ r = 4 ∨ r = 5 ∨ r = 6 ∨ r = 7 ∨ r = 8 ∨ r = 9 ∨ r = 10 ∨ r = 11 ∨ r = 12 ∨ r = 13 ∨ r = 14 ∨ r = 15) with h | h | h | h | h | h | h | h | h | h | h | h | h | h | h | h <;> subst h <;> (first | exact e0 | exact e1 | exact e2 | exact e3 | exact e4 | exact e5 | exact e6 | exact e7 | exact e8 | exact e9 | exact e10 | exact e11 | exact e12 | exact e13 | exact e14 | exact e15)
theorem cb_n {f : Fr} {c : Nat} {F : Nat → Int} (h : f.tg = false) (hc : 12 ≤ c ∧ c ≤ 9223372036854775807) (e0 : F 0 = f.a0) (e1 : F 1 = f.a1) (e2 : F 2 = f.a2) (e3 : F 3 = f.a3) (e4 : F 4 = f.a4) (e5 : F 5 = f.a5) (e6 : F 6 = f.b0) (e7 : F 7 = f.b1) (e8 : F 8 = f.b2) (e9 : F 9 = f.b3) (e10 : F 10 = f.b4) (e11 : F 11 = f.b5) : CB (ht f) (preC f) ⟨c, F⟩ := by
  have hh : ht f = 12 := by unfold ht; rw [h]; rfl
  refine ⟨by rw [hh]; exact hc.1, hc.2, fun r hr => ?_⟩
  rw [hh] at hr
  unfold preC pre
  rw [h]
  dsimp only
  rcases (by omega : r = 0 ∨ r = 1 ∨ r = 2 ∨ r = 3 ∨ r = 4 ∨ r = 5 ∨ r = 6 ∨ r = 7 ∨ r = 8 ∨ r = 9 ∨ r = 10 ∨ r = 11) with h | h | h | h | h | h | h | h | h | h | h | h <;> subst h <;> (first | exact e0 | exact e1 | exact e2 | exact e3 | exact e4 | exact e5 | exact e6 | exact e7 | exact e8 | exact e9 | exact e10 | exact e11)
theorem ht_c (f : Fr) : ht f = 12 ∨ ht f = 16 := by
  unfold ht
  cases f.tg <;> simp
theorem pre_at (f : Fr) (h : f.many = true) (j : Nat) : preC f (ht f + j) = [241, 193, 0, 0, hi f.seq, lo f.seq].getD j 0 := by
  unfold preC pre ht
  rw [h]
  cases f.tg
  · show List.getD ([f.a0, f.a1, f.a2, f.a3, f.a4, f.a5, f.b0, f.b1, f.b2, f.b3, f.b4, f.b5] ++ [] ++ _) (12 + j) 0 = _
    rw [List.getD_eq_getElem?_getD, List.getD_eq_getElem?_getD, List.getElem?_append_right (by simp)]
    congr 2
    simp
  · show List.getD ([f.a0, f.a1, f.a2, f.a3, f.a4, f.a5, f.b0, f.b1, f.b2, f.b3, f.b4, f.b5] ++ [129, 0, hi (tag f), lo (tag f)] ++ _) (16 + j) 0 = _
    rw [List.getD_eq_getElem?_getD, List.getD_eq_getElem?_getD, List.getElem?_append_right (by simp)]
    congr 2
    simp
theorem cb_m {f : Fr} {y : Nat × (Nat → Int)} {c : Nat} {F : Nat → Int} (h : f.many = true) (hy : CB (ht f) (preC f) ⟨y.1, y.2⟩) (hc : ht f + 6 ≤ c ∧ c ≤ 9223372036854775807) (hF : ∀ r, r < ht f → F r = y.2 r) (e0 : F (ht f + 0) = 241) (e1 : F (ht f + 1) = 193) (e2 : F (ht f + 2) = 0) (e3 : F (ht f + 3) = 0) (e4 : F (ht f + 4) = hi f.seq) (e5 : F (ht f + 5) = lo f.seq) : CB (hl f) (preC f) ⟨c, F⟩ := by
  have hh : hl f = ht f + 6 := by unfold hl ht; rw [if_pos h]
  refine ⟨by rw [hh]; exact hc.1, hc.2, fun r hr => ?_⟩
  rw [hh] at hr
  dsimp only
  rcases (by omega : r < ht f ∨ r = ht f + 0 ∨ r = ht f + 1 ∨ r = ht f + 2 ∨ r = ht f + 3 ∨ r = ht f + 4 ∨ r = ht f + 5) with h1 | h1 | h1 | h1 | h1 | h1 | h1
  · rw [hF r h1]; exact hy.2.2 r h1
  · rw [h1, e0, pre_at f h]; rfl
  · rw [h1, e1, pre_at f h]; rfl
  · rw [h1, e2, pre_at f h]; rfl
  · rw [h1, e3, pre_at f h]; rfl
  · rw [h1, e4, pre_at f h]; rfl
  · rw [h1, e5, pre_at f h]; rfl
theorem cb_o {f : Fr} {y : Nat × (Nat → Int)} (h : f.many = false) (hy : CB (ht f) (preC f) ⟨y.1, y.2⟩) : CB (hl f) (preC f) ⟨y.1, y.2⟩ := by
  have hh : hl f = ht f := by unfold hl ht; rw [h]; rfl
  rw [hh]; exact hy
theorem cb_i {f : Fr} {y : Nat × (Nat → Int)} {c : Nat} {F : Nat → Int} (hy : CB (hl f) (preC f) ⟨y.1, y.2⟩) (hc : hl f + 4 + f.data.len ≤ c ∧ c ≤ 9223372036854775807) (hF : ∀ r, r < hl f → F r = y.2 r) (e0 : F (hl f + 0) = hi f.typ) (e1 : F (hl f + 1) = lo f.typ) (e2 : F (hl f + 2) = hi f.data.len) (e3 : F (hl f + 3) = lo f.data.len) (e4 : ∀ r, r < f.data.len → F (hl f + 4 + r) = f.data.g r) : CB (hl f + 4 + f.data.len) (inG f) ⟨c, F⟩ := by
  refine ⟨hc.1, hc.2, fun r hr => ?_⟩
  dsimp only
  unfold inG
  by_cases h1 : r < hl f
  · rw [if_pos h1, hF r h1]; exact hy.2.2 r h1
  · rw [if_neg h1]
    by_cases h2 : r < hl f + 4
    · rw [if_pos h2]
      rcases (by omega : r = hl f + 0 ∨ r = hl f + 1 ∨ r = hl f + 2 ∨ r = hl f + 3) with h3 | h3 | h3 | h3
      · rw [h3, e0, Nat.add_sub_cancel_left]; rfl
      · rw [h3, e1, Nat.add_sub_cancel_left]; rfl
      · rw [h3, e2, Nat.add_sub_cancel_left]; rfl
      · rw [h3, e3, Nat.add_sub_cancel_left]; rfl
    · rw [if_neg h2, if_pos hr]
      have := e4 (r - (hl f + 4)) (by omega)
      rw [show hl f + 4 + (r - (hl f + 4)) = r by omega] at this
      exact this
theorem cb_p {f : Fr} {y : Nat × Nat × (Nat → Int)} {c : Nat} {F : Nat → Int} (hy : CB y.1 (inG f) ⟨y.2.1, y.2.2⟩) (hn : hl f + 4 + f.data.len ≤ y.1) (hc : y.1 + 1 ≤ c ∧ c ≤ 9223372036854775807) (hF : ∀ r, r < y.1 → F r = y.2.2 r) (e0 : F y.1 = 0) : CB (y.1 + 1) (inG f) ⟨c, F⟩ := by
  refine ⟨hc.1, hc.2, fun r hr => ?_⟩
  dsimp only
  by_cases h1 : r < y.1
  · rw [hF r h1]; exact hy.2.2 r h1
  · rw [show r = y.1 by omega, e0]
    unfold inG
    rw [if_neg (by omega), if_neg (by omega), if_neg (by omega)]
theorem enc_no {f : Fr} {m : Mem} {e : Int} (hp : chk f ≠ 0) (h : altOne [roB f.data] [0] (.tup [.a (.v (.slice none 0 0)), .a (.v (.int .i64 e))]) m (.tup [.a (.v (.slice none 0 0)), .a (i_ (chk f))]) [roB f.data]) : anyAlt [roB f.data] (opRen (.tup [.a (.v (.slice none 0 0)), .a (.v (.int .i64 e))])) (.tup [.a (.v (.slice none 0 0)), .a (.v (.int .i64 e))]) m (encAlts f) := alt_l hp h
theorem fr_bd {f : Fr} (h : chk f = 0) : (0 ≤ f.prio ∧ f.prio < 8) ∧ (0 ≤ f.vid ∧ f.vid < 4096) ∧ (0 ≤ f.seq ∧ f.seq < 65536) ∧ (1536 ≤ f.typ ∧ f.typ < 65536) := by
  have := (chk_0 h).1
  unfold BadN at this
  omega
theorem tot_60 {f : Fr} {n : Nat} (h1 : hl f + 4 + f.data.len ≤ n) (h2 : n ≤ tot f) (h3 : 60 ≤ n) : tot f = n := by
  unfold tot at *; omega
section
attribute [local irreducible] Bw Lex HeldOK
set_option maxHeartbeats 8000000 in
theorem enc_runs (f : Fr) (hp : obp (some (FrW f ∧ Sml f))) : Runs (cxEnc f) Try.f31 [F1 0 f] [roB f.data] fun v m => anyAlt [roB f.data] (opRen v) v m (encAlts f) := by
  obtain ⟨hf, hs⟩ : FrW f ∧ Sml f := hp
  repeat' (first | with_reducible exact trivial | with_reducible exact rfl | with_reducible exact Nat.le_refl _ | with_reducible exact (fun _ _ => rfl) | ((conv => whnf); first | (refine fun (x : CG) => ?_) | (refine fun (y : Nat × (Nat → Int)) => ?_) | (refine fun (z : Nat × Nat × (Nat → Int)) => ?_) | (refine fun _ => ?_) | refine ⟨?_, ?_⟩ | exact trivial | exact Nat.le_refl _ | exact lex_q (by kernel_rfl) | exact lex_t (by kernel_rfl) | exact lex_h (by kernel_rfl) | fail))
  all_goals (try exact hs)
  all_goals (try (have hk : chk f = 0 := Decidable.not_not.1 (by assumption)))
  all_goals (try (have hbd := fr_bd hk; obtain ⟨p0, p1, p2, p3⟩ := hbd))
  all_goals (try (have hz := (by assumption : (laP f).inv z); dsimp only [laP] at hz))
  all_goals (have hht := ht_c f)
  any_goals (refine enter_mk (la := laT f) (_, _) ?_ (by (repeat' (first | ((conv => whnf); first | refine ⟨?_, ?_⟩ | exact trivial | fail) | (dsimp only; done) | ((try dsimp only); first | with_reducible exact rfl | exact Nat.le_refl _ | with_reducible exact (fun _ _ => rfl)))); first | ((all_goals ((try dsimp only [laT] at *); (all_goals (try simp (disch := omega) only [w64', wu64', tdiv_pos, tmod_pos, Int.toNat_natCast, Nat.zero_add] at *)); (all_goals ((unfold ht; simp [*, cutL]))))); done) | fail))
  any_goals (refine enter_mk (la := laH f) (_, _) ?_ (by (repeat' (first | ((conv => whnf); first | refine ⟨?_, ?_⟩ | exact trivial | fail) | (dsimp only; done) | ((try dsimp only); first | with_reducible exact rfl | exact Nat.le_refl _ | with_reducible exact (fun _ _ => rfl)))); first | ((all_goals ((try dsimp only [laH] at *); (all_goals (try simp (disch := omega) only [w64', wu64', tdiv_pos, tmod_pos, Int.toNat_natCast, Nat.zero_add] at *)); (all_goals ((unfold hl ht; simp [*]))))); done) | fail))
  any_goals (refine enter_mk (la := laP f) (_, _, _) ?_ (by (repeat' (first | ((conv => whnf); first | refine ⟨?_, ?_⟩ | exact trivial | fail) | (dsimp only; done) | ((try dsimp only); first | with_reducible exact rfl | exact Nat.le_refl _ | with_reducible exact (fun _ _ => rfl)))); first | ((all_goals ((try dsimp only [laP] at *); (all_goals (try simp (disch := omega) only [w64', wu64', tdiv_pos, tmod_pos, Int.toNat_natCast, Nat.zero_add] at *)); (all_goals (omega)))); done) | fail))
  any_goals (first
    | refine enc_no ?_ (by (repeat' (first | with_reducible exact rfl | exact Nat.le_refl _ | with_reducible exact (fun _ _ => rfl) | ((conv => whnf); first | refine ⟨?_, ?_⟩ | exact trivial | fail))); first | ((all_goals ((try dsimp only [id] at *); (all_goals (try simp (disch := omega) only [w64', wu64', tdiv_pos, tmod_pos, Int.toNat_natCast, Nat.zero_add] at *)); (all_goals (rfl)))); done) | fail)
    | refine alt_r (alt_fam (α := CG) ⟨_, _⟩ ?_ (by (repeat' (first | with_reducible exact rfl | exact Nat.le_refl _ | with_reducible exact (fun _ _ => rfl) | ((conv => whnf); first | refine ⟨?_, ?_⟩ | exact trivial | fail))); first | ((all_goals ((try dsimp only [id, cutL] at *); (all_goals (try simp (disch := omega) only [w64', wu64', tdiv_pos, tmod_pos, Int.toNat_natCast, Nat.zero_add] at *)); (all_goals ((have hz2 := hz.1; rw [tot_60 hz2.1 hz2.2 (by omega)]))))); done) | fail)))
  all_goals (try dsimp only [cutR, cutL, id, laT, laH, laP] at *)
  all_goals (try simp (disch := omega) only [fdiv_nn, Int.reduceToNat, IntKind.bits, Nat.min_def, Nat.reduceLeDiff, if_true, if_false, Int.reducePow, wu8, wu32, w64', wu64', tdiv_pos, tmod_pos, Int.toNat_natCast, Nat.zero_add, or_tag, or_drop] at *)
  all_goals (try omega)
  all_goals (have hdw := hf.d.out; have hsl : f.data.len ≤ 100000 := hs)
  all_goals (try (have hy := (by assumption : CB (ht f) (preC f) ⟨y.1, y.2⟩); have hyl := hy.len))
  all_goals (try (have hy := (by assumption : CB (hl f) (preC f) ⟨y.1, y.2⟩); have hyl := hy.len))
  all_goals (have hhl := hl_c f)
  all_goals (try omega)
  all_goals (try (dsimp only at hyl; omega))
  all_goals (try (have hzl := hz.2.len; dsimp only at hzl; omega))
  · have ed : tag f = f.prio * 8192 + 4096 + f.vid := by unfold tag; rw [if_pos (by assumption : f.drop = true)]
    exact cb_t (by assumption) (by omega) rfl rfl rfl rfl rfl rfl rfl rfl rfl rfl rfl rfl rfl rfl (by rw [ed]; rfl) (by rw [ed]; rfl)
  · have ed : tag f = f.prio * 8192 + f.vid := by unfold tag; rw [(by assumption : f.drop = false)]; simp
    exact cb_t (by assumption) (by omega) rfl rfl rfl rfl rfl rfl rfl rfl rfl rfl rfl rfl rfl rfl (by rw [ed]; rfl) (by rw [ed]; rfl)
  · exact cb_n (by assumption) (by omega) rfl rfl rfl rfl rfl rfl rfl rfl rfl rfl rfl rfl
  · refine cb_m (by assumption) hy (by omega) (fun r hr => ?_) ?_ ?_ ?_ ?_ ?_ ?_
    all_goals ((try dsimp only); simp (disch := omega) only [if_pos, if_neg, Nat.add_sub_cancel_left, Nat.sub_self, Nat.add_assoc, Nat.reduceAdd, Nat.add_sub_add_left, Nat.add_zero])
    all_goals rfl
  · exact cb_o (by assumption) hy
  · refine ⟨⟨by omega, by unfold tot; omega⟩, cb_i hy (by omega) (fun r hr => ?_) ?_ ?_ ?_ ?_ (fun r hr => ?_)⟩
    all_goals ((try dsimp only); simp (disch := omega) only [if_pos, if_neg, Nat.add_sub_cancel_left, Nat.sub_self, Nat.add_assoc, Nat.reduceAdd, Nat.add_sub_add_left, Nat.add_zero])
    all_goals rfl
  · refine ⟨⟨by omega, by unfold tot at *; omega⟩, cb_p hz.2 hz.1.1 (by omega) (fun r hr => ?_) ?_⟩
    all_goals ((try dsimp only); simp (disch := omega) only [if_pos, if_neg, Nat.add_sub_cancel_left, Nat.sub_self, Nat.add_assoc, Nat.reduceAdd, Nat.add_sub_add_left, Nat.add_zero])
    all_goals rfl
  · exact hz.2.bw (fun r hr => inG_wf hf r)
  · have h1 := hz.1.2; have h2 := (chk_0 hk).2.2.2.2; have h3 := siz_tot f; omega
  · refine ⟨hk, ?_⟩
    rw [tot_60 hz.1.1 hz.1.2 (by omega)]
    have hx := (by assumption : CB (z.1 + 4) (clG (fun q => z.2.2 (q + 0)) z.1) x)
    exact ⟨hx.1, hx.2.1, fun r hr => (hx.2.2 r hr).trans (clG_congr (fun q hq => hz.2.2.2 q hq) r)⟩
end
noncomputable def encS : ESpec Try.prog := newN fn31 sf cxEnc (fun f => some (FrW f ∧ Sml f)) encAlts (fun _ v _ => opRen v) (fun _ => rfl) (fun x a ha => by
  rcases List.mem_cons.1 ha with h | h
  · rw [h]; rfl
  · rw [List.mem_singleton.1 h]; exact fun _ => rfl) enc_runs

end Go.Proofs.Ytiaadplhpkggeaa
