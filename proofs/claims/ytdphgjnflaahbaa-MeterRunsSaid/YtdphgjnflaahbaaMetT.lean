/-
  Contracts of functions, and plain facts about them, that a claim of this seat uses.
-/
import Derived.Test.YtdphgjnflaahbaaSx
import Derived.Test.YtdphgjnflaahbaaMWideNum
import Derived.Test.YtdphgjnflaahbaaMRefA
import Derived.Test.YtdphgjnflaahbaaMRefB
import Derived.Test.YtdphgjnflaahbaaMWideU
import Derived.Test.YtdphgjnflaahbaaMLen
import Derived.Test.YtdphgjnflaahbaaMDiv64
import Derived.Test.YtdphgjnflaahbaaMDivU
import Derived.Test.YtdphgjnflaahbaaMMulDiv
import Derived.Test.YtdphgjnflaahbaaMHeld
import Derived.Test.YtdphgjnflaahbaaMRefM
import Derived.Test.YtdphgjnflaahbaaMRefD
import Derived.Test.YtdphgjnflaahbaaMRefE
import Derived.Test.YtdphgjnflaahbaaMetA
import Derived.Test.YtdphgjnflaahbaaMetB
import Derived.Test.YtdphgjnflaahbaaMetC
import Derived.Test.YtdphgjnflaahbaaMetD
import Derived.Test.YtdphgjnflaahbaaMetR
import Derived.Test.YtdphgjnflaahbaaMetS
import Derived.Test.YtdphgjnflaahbaaProg
namespace Go.Proofs.Ytdphgjnflaahbaa
open Go.Sx
set_option linter.unusedVariables false
set_option linter.unusedSimpArgs false
set_option maxRecDepth 100000

/-! the reference's In as a contract; no meter at all. -/
noncomputable def rinS : ESpec Try.prog := newN fn17 (.s4 Lens.rm (.int .i64) (.int .i64) .bool) (fun x => cxRIn x.1 x.2.1 x.2.2.1 x.2.2.2) (fun x => some (RMOk x.1)) rinA (fun _ v _ => rinRen v) (fun _ => rfl) (fun x a ha => by
  rcases List.mem_cons.1 ha with rfl | ha
  · exact rfl
  · rw [List.mem_singleton.1 ha]; exact fun _ => rfl) rin_runs
def nil_ : SV := .one (.a (.v (.pointer none)))
theorem minN_runs (x : Int × Int) (_ : obp (some True)) : Runs C00 Try.f11 [nil_, int_ .i64 x.1, int_ .i64 x.2, .one (.a .ff)] [] fun v _ => isRes (.tup [.a (i_ 2), .a (i_ 1)]) v := by
  repeat' (first | with_reducible exact trivial | with_reducible exact rfl | with_reducible exact Nat.le_refl _ | with_reducible exact (fun _ _ => rfl) | ((conv => whnf); first | (refine fun _ => ?_) | refine ⟨?_, ?_⟩ | exact trivial | exact Nat.le_refl _ | exact lex_q (by kernel_rfl) | exact lex_t (by kernel_rfl) | exact lex_h (by kernel_rfl) | fail))
noncomputable def minN : PSpec Try.prog := pureSpec fn11 C00 rfl (Int × Int) (fun l => match l with | [.one (.a (.v (.pointer none))), .one (.a (.v (.int .i64 n))), .one (.a (.v (.int .i64 k))), .one (.a .ff)] => some (n, k) | _ => none) (fun x => [nil_, int_ .i64 x.1, int_ .i64 x.2, .one (.a .ff)]) (fun _ => some True) (fun _ => .tup [.a (i_ 2), .a (i_ 1)]) (fun l x h => by
  split at h
  · cases h; rfl
  · cases h) (fun _ => rfl) (fun _ => rfl) minN_runs
def nilIn (l : List SV) : Option Unit := match l with | [.one (.a (.v (.pointer none)))] => some () | _ => none
theorem nilIn_ok (l : List SV) (x : Unit) (h : nilIn l = some x) : l = [nil_] := by
  unfold nilIn at h
  split at h
  · rfl
  · cases h
theorem bitsN_runs (_ : Unit) (_ : obp (some True)) : Runs C00 Try.f12 [nil_] [] fun v _ => isRes (.tup [.a (i_ 0), .a (i_ 0)]) v := by
  repeat' (first | with_reducible exact trivial | with_reducible exact rfl | with_reducible exact Nat.le_refl _ | with_reducible exact (fun _ _ => rfl) | ((conv => whnf); first | (refine fun _ => ?_) | refine ⟨?_, ?_⟩ | exact trivial | exact Nat.le_refl _ | exact lex_q (by kernel_rfl) | exact lex_t (by kernel_rfl) | exact lex_h (by kernel_rfl) | fail))
noncomputable def bitsN : PSpec Try.prog := pureSpec fn12 C00 rfl Unit nilIn (fun _ => [nil_]) (fun _ => some True) (fun _ => .tup [.a (i_ 0), .a (i_ 0)]) nilIn_ok (fun _ => rfl) (fun _ => rfl) bitsN_runs
theorem shutN_runs (_ : Unit) (_ : obp (some True)) : Runs C00 Try.f13 [nil_] [] fun v _ => isRes (.one (.a .ff)) v := by
  repeat' (first | with_reducible exact trivial | with_reducible exact rfl | with_reducible exact Nat.le_refl _ | with_reducible exact (fun _ _ => rfl) | ((conv => whnf); first | (refine fun _ => ?_) | refine ⟨?_, ?_⟩ | exact trivial | exact Nat.le_refl _ | exact lex_q (by kernel_rfl) | exact lex_t (by kernel_rfl) | exact lex_h (by kernel_rfl) | fail))
noncomputable def shutN : PSpec Try.prog := pureSpec fn13 C00 rfl Unit nilIn (fun _ => [nil_]) (fun _ => some True) (fun _ => .one (.a .ff)) nilIn_ok (fun _ => rfl) (fun _ => rfl) shutN_runs
theorem openN_runs (_ : Unit) (_ : obp (some True)) : Runs C00 Try.f14 [nil_] [] fun v _ => isRes (.tup []) v := by
  repeat' (first | with_reducible exact trivial | with_reducible exact rfl | with_reducible exact Nat.le_refl _ | with_reducible exact (fun _ _ => rfl) | ((conv => whnf); first | (refine fun _ => ?_) | refine ⟨?_, ?_⟩ | exact trivial | exact Nat.le_refl _ | exact lex_q (by kernel_rfl) | exact lex_t (by kernel_rfl) | exact lex_h (by kernel_rfl) | fail))
noncomputable def openN : PSpec Try.prog := pureSpec fn14 C00 rfl Unit nilIn (fun _ => [nil_]) (fun _ => some True) (fun _ => .tup []) nilIn_ok (fun _ => rfl) (fun _ => rfl) openN_runs
/-! plain facts for the law -/
def rmOf (m : Mt) (a b : DS) : RM := ⟨m.rate, m.burst, m.more, m.beyond, m.couple, m.aware, m.shut, m.last, ⟨a.len, a.cap, a.cap - 0, fun q => a.g (q + 0)⟩, ⟨b.len, b.cap, b.cap - 0, fun q => b.g (q + 0)⟩, m.off⟩
theorem rm_mt {m : Mt} {a b : DS} (ha : DV m.p0 a) (hb : DV m.p1 b) : (rmOf m a b).mt = m := by
  show Mt.mk m.rate m.burst m.more m.beyond m.couple m.aware m.shut m.last (nv ⟨a.len, a.cap, a.cap - 0, fun q => a.g (q + 0)⟩) (nv ⟨b.len, b.cap, b.cap - 0, fun q => b.g (q + 0)⟩) m.off = m
  rw [ha.2.2.1, hb.2.2.1]
theorem rm_ok {m : Mt} {a b : DS} (hm : MOk m) (hg : m.gap ≤ 9223372036854775807) (ha : DV m.p0 a) (hb : DV m.p1 b) : RMOk (rmOf m a b) :=
  ⟨by rw [rm_mt ha hb]; exact hm, ha.2.1, hb.2.1, by rw [rm_mt ha hb]; exact hg⟩
theorem rm_q {m : Mt} {a b : DS} (ha : DV m.p0 a) (hb : DV m.p1 b) (n s : Int) (y : Bool) : rinQ (rmOf m a b, n, s, y) = m.in_ n s y := by
  show (rmOf m a b).mt.in_ n s y = _
  rw [rm_mt ha hb]
theorem in_keep (m : Mt) (n s : Int) (y : Bool) : Keep (m.in_ n s y).1 m := by
  unfold Mt.in_
  repeat' split
  all_goals exact ⟨rfl, rfl, rfl, rfl, rfl, rfl, rfl⟩
theorem in_err {m : Mt} {n s : Int} {y : Bool} (h : (m.in_ n s y).2.2 ≠ 0) : (m.in_ n s y).1 = m := by
  unfold Mt.in_ at *
  by_cases h1 : s < 0 ∨ 1600 < s
  · rw [if_pos h1]
  rw [if_neg h1] at *
  by_cases h2 : n < m.last
  · rw [if_pos h2]
  rw [if_neg h2] at *
  by_cases h3 : 1099511627776 < n
  · rw [if_pos h3]
  rw [if_neg h3] at *
  exfalso
  revert h
  repeat' split
  all_goals exact fun h => h rfl
theorem in_fine {m : Mt} {n s : Int} {y : Bool} (h : (m.in_ n s y).2.2 = 0) : (0 ≤ s ∧ s ≤ 1600) ∧ m.last ≤ n ∧ n ≤ 1099511627776 := by
  by_cases h1 : s < 0 ∨ 1600 < s
  · rw [in_size h1] at h; exact absurd h (show ¬ (1 : Int) = 0 by decide)
  by_cases h2 : n < m.last
  · rw [in_late (by omega) h2] at h; exact absurd h (show ¬ (31 : Int) = 0 by decide)
  by_cases h3 : 1099511627776 < n
  · rw [in_far (by omega) (by omega) h3] at h; exact absurd h (show ¬ (1 : Int) = 0 by decide)
  omega
/-- a call at most empties the pails by a frame's bits -/
theorem in_gap {m : Mt} (hm : MOk m) (n s : Int) (y : Bool) : MOk (m.in_ n s y).1 ∧ (m.in_ n s y).1.gap ≤ m.gap + 12800000000000 := by
  by_cases h0 : (m.in_ n s y).2.2 = 0
  · obtain ⟨h1, h2, h3⟩ := in_fine h0
    refine ⟨(in_ok hm y h2 h3 h1).1, ?_⟩
    obtain ⟨_, _, _, i0, _, i1, i2⟩ := hm.turn h2 h3
    have e0 : (m.turn n).p0 = m.p0 + m.in0 n := rfl
    have e1 : (m.turn n).p1 = if m.couple = true then m.p1 + m.in1 n + m.in2 n else m.p1 + m.in1 n := rfl
    have e2 : m.p1 ≤ (m.turn n).p1 := by rw [e1]; split <;> omega
    have e3 : (m.turn n).burst = m.burst ∧ (m.turn n).beyond = m.beyond := ⟨rfl, rfl⟩
    unfold Mt.in_
    rw [if_neg (by omega), if_neg (by omega), if_neg (by omega)]
    unfold Mt.gap
    repeat' split
    all_goals (dsimp only; omega)
  · rw [in_err h0]; exact ⟨hm, by omega⟩
theorem whole_eq {p : Int} (h : 0 ≤ p ∧ p ≤ 9223372036854775807) : IntKind.i64.wrap (p.tdiv 1000000000) = intX (p / 1000000000) false := by
  rw [Int.tdiv_eq_ediv_of_nonneg h.1, w64' (by omega) (by omega)]
  unfold intX
  rw [if_neg (by decide), if_neg (by omega)]

end Go.Proofs.Ytdphgjnflaahbaa
