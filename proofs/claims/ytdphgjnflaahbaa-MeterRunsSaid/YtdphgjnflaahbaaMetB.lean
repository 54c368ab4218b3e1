/-
  Contracts of functions, and plain facts about them, that a claim of this seat uses.
-/
import Derived.Test.YtdphgjnflaahbaaSx
import Derived.Test.YtdphgjnflaahbaaMWideNum
import Derived.Test.YtdphgjnflaahbaaMRefA
import Derived.Test.YtdphgjnflaahbaaMRefB
import Derived.Test.YtdphgjnflaahbaaMWideU
import Derived.Test.YtdphgjnflaahbaaMLen
import Derived.Test.YtdphgjnflaahbaaMDiv64
import Derived.Test.YtdphgjnflaahbaaMDivU
import Derived.Test.YtdphgjnflaahbaaMMulDiv
import Derived.Test.YtdphgjnflaahbaaMHeld
import Derived.Test.YtdphgjnflaahbaaMetA
import Derived.Test.YtdphgjnflaahbaaProg
namespace Go.Proofs.Ytdphgjnflaahbaa
open Go.Sx
set_option linter.unusedVariables false
set_option linter.unusedSimpArgs false
set_option maxRecDepth 100000

/-! pails: turn, In. -/
theorem fn28 : FnOf Try.prog 28 Try.f28 := ⟨Try.func28, rfl, rfl, mixed⟩
theorem fn19 : FnOf Try.prog 19 Try.f19 := ⟨Try.func19, rfl, rfl, mixed⟩
theorem fn11 : FnOf Try.prog 11 Try.f11 := ⟨Try.func11, rfl, rfl, mixed⟩
noncomputable def cxFill : Cx Try.prog := { ps := [heldS], es := [], is := [], n0 := 1, loops := fun _ => none, cuts := fun _ => none }
def Mt.turnE (m : Mt) (now : Int) : Int := if now < m.last then 31 else if 1099511627776 < now then 1 else 0
def Mt.turnS (m : Mt) (now : Int) : Mt := if now < m.last ∨ 1099511627776 < now then m else m.turn now
theorem turnE_0 {m : Mt} {now : Int} (h : m.last ≤ now ∧ now ≤ 1099511627776) : m.turnE now = 0 ∧ m.turnS now = m.turn now := by
  unfold Mt.turnE Mt.turnS
  rw [if_neg (by omega), if_neg (by omega), if_neg (by omega)]; exact ⟨rfl, rfl⟩
theorem turnE_1 {m : Mt} {now : Int} (h : m.last ≤ now ∧ 1099511627776 < now) : m.turnE now = 1 ∧ m.turnS now = m := by
  unfold Mt.turnE Mt.turnS
  rw [if_neg (by omega), if_pos (by omega), if_pos (by omega)]; exact ⟨rfl, rfl⟩
theorem turnE_31 {m : Mt} {now : Int} (h : now < m.last) : m.turnE now = 31 ∧ m.turnS now = m := by
  unfold Mt.turnE Mt.turnS
  rw [if_pos h, if_pos (.inl h)]; exact ⟨rfl, rfl⟩
theorem wr_bd (n : Int) : -9223372036854775808 ≤ IntKind.i64.wrap n ∧ IntKind.i64.wrap n ≤ 9223372036854775807 := by
  simp only [IntKind.wrap, IntKind.signed, IntKind.bits]
  simp
  split <;> omega
noncomputable def cxTurn : Cx Try.prog := { ps := [], es := [], is := [inl fn28 cxFill], n0 := 1, loops := fun _ => none, cuts := fun _ => none, loud := fun i => match i with | 7 => true | 8 => true | 10 => true | _ => false }
section
attribute [local irreducible] enter anyAlt
set_option maxHeartbeats 16000000 in
theorem mturn_runs (m : Mt) (now : Int) (h : MOk m) : Runs cxTurn Try.f19 [.one (.a (.ptr 0 0)), int_ .i64 now] [some ⟨true, .flat m.cells⟩] fun v m' => anyAlt [some ⟨true, .flat m.cells⟩] [0] v m' [.one (int_ .i64 (m.turnE now)) [some ⟨true, .flat (m.turnS now).cells⟩]] := by
  have h9 := h
  obtain ⟨r, b, mo, be, l, q0, q1⟩ := h
  have r1 : -9223372036854775808 ≤ m.rate := by omega
  have r2 : m.rate ≤ 9223372036854775807 := by omega
  have m1 : -9223372036854775808 ≤ m.more := by omega
  have m2 : m.more ≤ 9223372036854775807 := by omega
  have o1 : (-9223372036854775808 : Int) ≤ 1 := by decide
  have o2 : (1 : Int) ≤ 9223372036854775807 := by decide
  have z1 : (-9223372036854775808 : Int) ≤ 0 := by decide
  have z2 : (0 : Int) ≤ 9223372036854775807 := by decide
  rcases (by omega : now < m.last ∨ (m.last ≤ now ∧ 1099511627776 < now) ∨ (m.last ≤ now ∧ now ≤ 1099511627776)) with hn | hn | hn
  · obtain ⟨e1, e2⟩ := turnE_31 hn
    repeat' (first | with_reducible exact trivial | with_reducible exact rfl | with_reducible exact Nat.le_refl _ | with_reducible exact (fun _ _ => rfl) | ((conv => whnf); first | (refine fun _ => ?_) | refine ⟨?_, ?_⟩ | exact trivial | exact Nat.le_refl _ | exact lex_q (by kernel_rfl) | exact lex_t (by kernel_rfl) | exact lex_h (by kernel_rfl) | fail))
    all_goals (try (exfalso; omega))
    all_goals (refine alt_one (by (repeat' (first | with_reducible exact rfl | exact Nat.le_refl _ | with_reducible exact (fun _ _ => rfl) | ((conv => whnf); first | refine ⟨?_, ?_⟩ | exact trivial | fail))); first | ((all_goals ((try dsimp only [id] at *); (all_goals (try simp (disch := omega) only [w64', wu64', tdiv_pos, tmod_pos, Int.toNat_natCast, Nat.zero_add] at *)); (all_goals ((simp only [e1, e2]; done))))); done) | fail))
  · obtain ⟨e1, e2⟩ := turnE_1 hn
    repeat' (first | with_reducible exact trivial | with_reducible exact rfl | with_reducible exact Nat.le_refl _ | with_reducible exact (fun _ _ => rfl) | ((conv => whnf); first | (refine fun _ => ?_) | refine ⟨?_, ?_⟩ | exact trivial | exact Nat.le_refl _ | exact lex_q (by kernel_rfl) | exact lex_t (by kernel_rfl) | exact lex_h (by kernel_rfl) | fail))
    all_goals (try (exfalso; omega))
    all_goals (refine alt_one (by (repeat' (first | with_reducible exact rfl | exact Nat.le_refl _ | with_reducible exact (fun _ _ => rfl) | ((conv => whnf); first | refine ⟨?_, ?_⟩ | exact trivial | fail))); first | ((all_goals ((try dsimp only [id] at *); (all_goals (try simp (disch := omega) only [w64', wu64', tdiv_pos, tmod_pos, Int.toNat_natCast, Nat.zero_add] at *)); (all_goals ((simp only [e1, e2]; done))))); done) | fail))
  · obtain ⟨e1, e2⟩ := turnE_0 hn
    obtain ⟨_, d0, d1, i0, ov, i1, i2⟩ := h9.turn hn.1 hn.2
    have hns : IntKind.i64.wrap (now - m.last) = now - m.last := w64' (by omega) (by omega)
    have hb0 : IntKind.i64.wrap (m.burst * 1000000000) = m.burst * 1000000000 := w64' (by omega) (by omega)
    have hb1 : IntKind.i64.wrap (m.beyond * 1000000000) = m.beyond * 1000000000 := w64' (by omega) (by omega)
    have hH0 : mdH m.rate (now - m.last) 1 0 = prod m.rate (now - m.last) := held_one r.1 (by omega)
    have hH1 : mdH m.more (now - m.last) 1 0 = prod m.more (now - m.last) := held_one mo.1 (by omega)
    have hr0 : IntKind.i64.wrap (m.burst * 1000000000 - m.p0) = m.burst * 1000000000 - m.p0 := w64' (by omega) (by omega)
    have hi0 : (if m.burst * 1000000000 - m.p0 < prod m.rate (now - m.last) then m.burst * 1000000000 - m.p0 else prod m.rate (now - m.last)) = m.in0 now := rfl
    have hp0 : IntKind.i64.wrap (m.p0 + m.in0 now) = m.p0 + m.in0 now := w64' (by omega) (by omega)
    have hov : IntKind.i64.wrap (prod m.rate (now - m.last) - m.in0 now) = m.over now := w64' (by show _ ≤ m.over now; omega) (by show m.over now ≤ _; omega)
    have hr1 : IntKind.i64.wrap (m.beyond * 1000000000 - m.p1) = m.beyond * 1000000000 - m.p1 := w64' (by omega) (by omega)
    have hi1 : (if m.beyond * 1000000000 - m.p1 < prod m.more (now - m.last) then m.beyond * 1000000000 - m.p1 else prod m.more (now - m.last)) = m.in1 now := rfl
    have hp1 : IntKind.i64.wrap (m.p1 + m.in1 now) = m.p1 + m.in1 now := w64' (by omega) (by omega)
    have hH2 : mdH (m.over now) 1 1 0 = m.over now := by
      rw [held_one ov.1 (by decide)]
      unfold prod
      rw [Int.mul_one]
      exact if_neg (by omega)
    have hr2 : IntKind.i64.wrap (m.beyond * 1000000000 - (m.p1 + m.in1 now)) = m.beyond * 1000000000 - (m.p1 + m.in1 now) := w64' (by omega) (by omega)
    have hi2 : (if m.beyond * 1000000000 - (m.p1 + m.in1 now) < m.over now then m.beyond * 1000000000 - (m.p1 + m.in1 now) else m.over now) = m.in2 now := rfl
    have hp2 : IntKind.i64.wrap (m.p1 + m.in1 now + m.in2 now) = m.p1 + m.in1 now + m.in2 now := w64' (by omega) (by omega)
    repeat' (first | with_reducible exact trivial | with_reducible exact rfl | with_reducible exact Nat.le_refl _ | with_reducible exact (fun _ _ => rfl) | ((conv => whnf); first | (refine fun _ => ?_) | refine ⟨?_, ?_⟩ | exact trivial | exact Nat.le_refl _ | exact lex_q (by kernel_rfl) | exact lex_t (by kernel_rfl) | exact lex_h (by kernel_rfl) | fail))
    all_goals (try (exfalso; omega))
    all_goals (try first | exact r1 | exact r2 | exact m1 | exact m2 | exact o1 | exact o2 | exact z1 | exact z2 | exact (wr_bd _).1 | exact (wr_bd _).2)
    all_goals (refine alt_one (by (repeat' (first | with_reducible exact rfl | exact Nat.le_refl _ | with_reducible exact (fun _ _ => rfl) | ((conv => whnf); first | refine ⟨?_, ?_⟩ | exact trivial | fail))); first | ((all_goals ((first | exact e1 | (rw [e2]; simp only [hns, hb0, hb1, hH0, hH1, hr0, hi0, hp0, hov, hr1, hi1, hp1, hH2, hr2, hi2, hp2]; first | done | rfl | exact if_pos (by assumption) | exact if_neg (by simp [*])) | (rw [e2]; first | done | rfl | exact if_pos (by assumption) | exact if_neg (by simp [*]))))); done) | fail))
end
def rdM1 (cs : List SA) (ar : List SV) : Option (Mt × Int) := match ar with | [.one (.a (.v (.int .i64 n)))] => (rdM cs).map (·, n) | _ => none
theorem rdM1_ok (cs : List SA) (ar : List SV) (x : Mt × Int) (h : rdM1 cs ar = some x) : ar = [int_ .i64 x.2] ∧ ∀ ρ, [int_ .i64 x.2].map (SV.ren ρ) = [int_ .i64 x.2] ∧ ∃ l, subCon ((Con.flat x.1.cells).ren ρ) (.flat cs) = some l ∧ Holds l := by
  unfold rdM1 at h
  split at h
  · obtain ⟨s, hs, rfl⟩ := Option.map_eq_some_iff.1 h
    exact ⟨rfl, fun ρ => ⟨rfl, rdM_ok hs ρ⟩⟩
  · cases h
noncomputable def mturnS : ESpec Try.prog := objSpec fn19 (Mt × Int) (fun _ => cxTurn) (fun _ => rfl) rdM1 (fun x => x.1.cells) (fun x => [int_ .i64 x.2]) (fun x => some (MOk x.1)) (fun x => int_ .i64 (x.1.turnE x.2)) (fun x => (x.1.turnS x.2).cells) rdM1_ok (fun x h => mturn_runs x.1 x.2 h)
noncomputable def cxMIn : Cx Try.prog := { ps := [], es := [mturnS], is := [], n0 := 1, loops := fun _ => none, cuts := fun _ => none }
section
attribute [local irreducible] enter anyAlt
set_option maxHeartbeats 16000000 in
theorem min_runs (m : Mt) (now size : Int) (y : Bool) (h : MOk m) : Runs cxMIn Try.f11 [.one (.a (.ptr 0 0)), int_ .i64 now, int_ .i64 size, .one (.a (.v (.bool y)))] [some ⟨true, .flat m.cells⟩] fun v m' => anyAlt [some ⟨true, .flat m.cells⟩] [0] v m' [.one (.tup [.a (i_ (m.in_ now size y).2.1), .a (i_ (m.in_ now size y).2.2)]) [some ⟨true, .flat (m.in_ now size y).1.cells⟩]] := by
  have hs : ¬ (size < 0 ∨ 1600 < size) → IntKind.i64.wrap (IntKind.i64.wrap (size * 8) * 1000000000) = size * 8000000000 := fun h => by
    rw [w64' (n := size * 8) (by omega) (by omega), w64' (by omega) (by omega)]; omega
  rcases (by omega : now < m.last ∨ (m.last ≤ now ∧ 1099511627776 < now) ∨ (m.last ≤ now ∧ now ≤ 1099511627776)) with hn | hn | hn
  · obtain ⟨e1, e2⟩ := turnE_31 hn
    repeat' (first | with_reducible exact trivial | with_reducible exact rfl | with_reducible exact Nat.le_refl _ | with_reducible exact (fun _ _ => rfl) | ((conv => whnf); first | (refine fun _ => ?_) | refine ⟨?_, ?_⟩ | exact trivial | exact Nat.le_refl _ | exact lex_q (by kernel_rfl) | exact lex_t (by kernel_rfl) | exact lex_h (by kernel_rfl) | fail))
    all_goals first
      | exact h
      | (have c : ¬ ¬ m.turnE now = 0 := by assumption
         exact absurd e1 (by have := Decidable.not_not.1 c; rw [this]; decide))
      | (have c : size < 0 ∨ 1600 < size := by omega
         refine alt_one (by (repeat' (first | with_reducible exact rfl | exact Nat.le_refl _ | with_reducible exact (fun _ _ => rfl) | ((conv => whnf); first | refine ⟨?_, ?_⟩ | exact trivial | fail))); first | ((all_goals ((rw [in_size c]))); done) | fail))
      | (have ein := in_late (m := m) (now := now) (size := size) (y := y) (by omega) hn
         refine alt_one (by (repeat' (first | with_reducible exact rfl | exact Nat.le_refl _ | with_reducible exact (fun _ _ => rfl) | ((conv => whnf); first | refine ⟨?_, ?_⟩ | exact trivial | fail))); first | ((all_goals ((first | (rw [ein, e2]) | (rw [ein]; exact e1.symm) | (rw [ein])))); done) | fail))
  · obtain ⟨e1, e2⟩ := turnE_1 hn
    repeat' (first | with_reducible exact trivial | with_reducible exact rfl | with_reducible exact Nat.le_refl _ | with_reducible exact (fun _ _ => rfl) | ((conv => whnf); first | (refine fun _ => ?_) | refine ⟨?_, ?_⟩ | exact trivial | exact Nat.le_refl _ | exact lex_q (by kernel_rfl) | exact lex_t (by kernel_rfl) | exact lex_h (by kernel_rfl) | fail))
    all_goals first
      | exact h
      | (have c : ¬ ¬ m.turnE now = 0 := by assumption
         exact absurd e1 (by have := Decidable.not_not.1 c; rw [this]; decide))
      | (have c : size < 0 ∨ 1600 < size := by omega
         refine alt_one (by (repeat' (first | with_reducible exact rfl | exact Nat.le_refl _ | with_reducible exact (fun _ _ => rfl) | ((conv => whnf); first | refine ⟨?_, ?_⟩ | exact trivial | fail))); first | ((all_goals ((rw [in_size c]))); done) | fail))
      | (have ein : m.in_ now size y = (m, 2, 1) := by
           unfold Mt.in_
           rw [if_neg (by omega), if_neg (by omega)]; exact if_pos hn.2
         refine alt_one (by (repeat' (first | with_reducible exact rfl | exact Nat.le_refl _ | with_reducible exact (fun _ _ => rfl) | ((conv => whnf); first | refine ⟨?_, ?_⟩ | exact trivial | fail))); first | ((all_goals ((first | (rw [ein, e2]) | (rw [ein]; exact e1.symm) | (rw [ein])))); done) | fail))
  · obtain ⟨e1, e2⟩ := turnE_0 hn
    obtain ⟨tk, _⟩ := h.turn hn.1 hn.2
    have tq0 := tk.q0
    have tq1 := tk.q1
    have tb := tk.b
    have tbe := tk.be
    have hin : ∀ (h9 : ¬ (size < 0 ∨ 1600 < size)), m.in_ now size y = (if m.off = true then (m.turn now, 2, 0)
        else if size * 8000000000 ≤ (m.turn now).p0 ∧ ¬ (y = true ∧ m.aware = true) then ({ m.turn now with p0 := (m.turn now).p0 - size * 8000000000 }, 0, 0)
        else if size * 8000000000 ≤ (m.turn now).p1 then ({ m.turn now with p1 := (m.turn now).p1 - size * 8000000000 }, 1, 0)
        else ({ m.turn now with off := m.shut }, 2, 0)) := fun h9 => by
      unfold Mt.in_
      rw [if_neg h9, if_neg (by omega), if_neg (by omega)]
    repeat' (first | with_reducible exact trivial | with_reducible exact rfl | with_reducible exact Nat.le_refl _ | with_reducible exact (fun _ _ => rfl) | ((conv => whnf); first | (refine fun _ => ?_) | refine ⟨?_, ?_⟩ | exact trivial | exact Nat.le_refl _ | exact lex_q (by kernel_rfl) | exact lex_t (by kernel_rfl) | exact lex_h (by kernel_rfl) | fail))
    all_goals first
      | exact h
      | (exact absurd e1 (by assumption))
      | (have c : size < 0 ∨ 1600 < size := by omega
         refine alt_one (by (repeat' (first | with_reducible exact rfl | exact Nat.le_refl _ | with_reducible exact (fun _ _ => rfl) | ((conv => whnf); first | refine ⟨?_, ?_⟩ | exact trivial | fail))); first | ((all_goals ((rw [in_size c]))); done) | fail))
      | skip
    all_goals
      have hz := hs (by omega)
      have ein := hin (by omega)
    all_goals (try (have c1 : (m.turnS now).off = true := by assumption
                    rw [e2] at c1
                    rw [if_pos (show m.off = true from c1)] at ein))
    all_goals (try (have c1 : (m.turnS now).off = false := by assumption
                    rw [e2] at c1
                    rw [if_neg (fun h9 => by rw [show m.off = false from c1] at h9; cases h9)] at ein))
    all_goals (try (have c2 : IntKind.i64.wrap (IntKind.i64.wrap (size * 8) * 1000000000) ≤ (m.turnS now).p0 := by assumption
                    rw [e2, hz] at c2))
    all_goals (try (have c2 : ¬ IntKind.i64.wrap (IntKind.i64.wrap (size * 8) * 1000000000) ≤ (m.turnS now).p0 := by assumption
                    rw [e2, hz] at c2
                    rw [if_neg (fun h9 => c2 h9.1)] at ein))
    all_goals (try (have c4 : IntKind.i64.wrap (IntKind.i64.wrap (size * 8) * 1000000000) ≤ (m.turnS now).p1 := by assumption
                    rw [e2, hz] at c4))
    all_goals (try (have c4 : ¬ IntKind.i64.wrap (IntKind.i64.wrap (size * 8) * 1000000000) ≤ (m.turnS now).p1 := by assumption
                    rw [e2, hz] at c4))
    all_goals (try (have c3 : y = false := by assumption
                    rw [if_pos ⟨c2, fun h9 => by rw [c3] at h9; cases h9.1⟩] at ein))
    all_goals (try (have c3 : (!(m.turnS now).aware) = true := by assumption
                    rw [e2] at c3
                    rw [if_pos ⟨c2, fun h9 => by rw [show (m.turn now).aware = true from h9.2] at c3; cases c3⟩] at ein))
    all_goals (try (have c3 : (!(m.turnS now).aware) = false := by assumption
                    rw [e2] at c3
                    rw [if_neg (fun h9 => h9.2 ⟨by assumption, show (m.turn now).aware = true by simpa using c3⟩)] at ein))
    all_goals (try rw [if_pos c4] at ein)
    all_goals (try rw [if_neg c4] at ein)
    all_goals (refine alt_one (by (repeat' (first | with_reducible exact rfl | exact Nat.le_refl _ | with_reducible exact (fun _ _ => rfl) | ((conv => whnf); first | refine ⟨?_, ?_⟩ | exact trivial | fail))); first | ((all_goals ((first | (rw [ein, e2, hz, w64' (by omega) (by omega)]; done) | (rw [ein, e2, hz, w64' (by omega) (by omega)]; rfl) | (rw [ein, e2]; done) | (rw [ein, e2]; rfl) | (rw [ein]; done) | (rw [ein]; rfl)))); done) | fail))
set_option maxHeartbeats 16000000 in
theorem min_runs_ff (m : Mt) (now size : Int) (h : MOk m) : Runs cxMIn Try.f11 [.one (.a (.ptr 0 0)), int_ .i64 now, int_ .i64 size, .one (.a .ff)] [some ⟨true, .flat m.cells⟩] fun v m' => anyAlt [some ⟨true, .flat m.cells⟩] [0] v m' [.one (.tup [.a (i_ (m.in_ now size false).2.1), .a (i_ (m.in_ now size false).2.2)]) [some ⟨true, .flat (m.in_ now size false).1.cells⟩]] := by
  have hs : ¬ (size < 0 ∨ 1600 < size) → IntKind.i64.wrap (IntKind.i64.wrap (size * 8) * 1000000000) = size * 8000000000 := fun h => by
    rw [w64' (n := size * 8) (by omega) (by omega), w64' (by omega) (by omega)]; omega
  rcases (by omega : now < m.last ∨ (m.last ≤ now ∧ 1099511627776 < now) ∨ (m.last ≤ now ∧ now ≤ 1099511627776)) with hn | hn | hn
  · obtain ⟨e1, e2⟩ := turnE_31 hn
    repeat' (first | with_reducible exact trivial | with_reducible exact rfl | with_reducible exact Nat.le_refl _ | with_reducible exact (fun _ _ => rfl) | ((conv => whnf); first | (refine fun _ => ?_) | refine ⟨?_, ?_⟩ | exact trivial | exact Nat.le_refl _ | exact lex_q (by kernel_rfl) | exact lex_t (by kernel_rfl) | exact lex_h (by kernel_rfl) | fail))
    all_goals first
      | exact h
      | (have c : ¬ ¬ m.turnE now = 0 := by assumption
         exact absurd e1 (by have := Decidable.not_not.1 c; rw [this]; decide))
      | (have c : size < 0 ∨ 1600 < size := by omega
         refine alt_one (by (repeat' (first | with_reducible exact rfl | exact Nat.le_refl _ | with_reducible exact (fun _ _ => rfl) | ((conv => whnf); first | refine ⟨?_, ?_⟩ | exact trivial | fail))); first | ((all_goals ((rw [in_size c]))); done) | fail))
      | (have ein := in_late (m := m) (now := now) (size := size) (y := false) (by omega) hn
         refine alt_one (by (repeat' (first | with_reducible exact rfl | exact Nat.le_refl _ | with_reducible exact (fun _ _ => rfl) | ((conv => whnf); first | refine ⟨?_, ?_⟩ | exact trivial | fail))); first | ((all_goals ((first | (rw [ein, e2]) | (rw [ein]; exact e1.symm) | (rw [ein])))); done) | fail))
  · obtain ⟨e1, e2⟩ := turnE_1 hn
    repeat' (first | with_reducible exact trivial | with_reducible exact rfl | with_reducible exact Nat.le_refl _ | with_reducible exact (fun _ _ => rfl) | ((conv => whnf); first | (refine fun _ => ?_) | refine ⟨?_, ?_⟩ | exact trivial | exact Nat.le_refl _ | exact lex_q (by kernel_rfl) | exact lex_t (by kernel_rfl) | exact lex_h (by kernel_rfl) | fail))
    all_goals first
      | exact h
      | (have c : ¬ ¬ m.turnE now = 0 := by assumption
         exact absurd e1 (by have := Decidable.not_not.1 c; rw [this]; decide))
      | (have c : size < 0 ∨ 1600 < size := by omega
         refine alt_one (by (repeat' (first | with_reducible exact rfl | exact Nat.le_refl _ | with_reducible exact (fun _ _ => rfl) | ((conv => whnf); first | refine ⟨?_, ?_⟩ | exact trivial | fail))); first | ((all_goals ((rw [in_size c]))); done) | fail))
      | (have ein : m.in_ now size false = (m, 2, 1) := by
           unfold Mt.in_
           rw [if_neg (by omega), if_neg (by omega)]; exact if_pos hn.2
         refine alt_one (by (repeat' (first | with_reducible exact rfl | exact Nat.le_refl _ | with_reducible exact (fun _ _ => rfl) | ((conv => whnf); first | refine ⟨?_, ?_⟩ | exact trivial | fail))); first | ((all_goals ((first | (rw [ein, e2]) | (rw [ein]; exact e1.symm) | (rw [ein])))); done) | fail))
  · obtain ⟨e1, e2⟩ := turnE_0 hn
    obtain ⟨tk, _⟩ := h.turn hn.1 hn.2
    have tq0 := tk.q0
    have tq1 := tk.q1
    have tb := tk.b
    have tbe := tk.be
    have hin : ∀ (h9 : ¬ (size < 0 ∨ 1600 < size)), m.in_ now size false = (if m.off = true then (m.turn now, 2, 0)
        else if size * 8000000000 ≤ (m.turn now).p0 ∧ ¬ (false = true ∧ m.aware = true) then ({ m.turn now with p0 := (m.turn now).p0 - size * 8000000000 }, 0, 0)
        else if size * 8000000000 ≤ (m.turn now).p1 then ({ m.turn now with p1 := (m.turn now).p1 - size * 8000000000 }, 1, 0)
        else ({ m.turn now with off := m.shut }, 2, 0)) := fun h9 => by
      unfold Mt.in_
      rw [if_neg h9, if_neg (by omega), if_neg (by omega)]
    repeat' (first | with_reducible exact trivial | with_reducible exact rfl | with_reducible exact Nat.le_refl _ | with_reducible exact (fun _ _ => rfl) | ((conv => whnf); first | (refine fun _ => ?_) | refine ⟨?_, ?_⟩ | exact trivial | exact Nat.le_refl _ | exact lex_q (by kernel_rfl) | exact lex_t (by kernel_rfl) | exact lex_h (by kernel_rfl) | fail))
    all_goals first
      | exact h
      | (exact absurd e1 (by assumption))
      | (have c : size < 0 ∨ 1600 < size := by omega
         refine alt_one (by (repeat' (first | with_reducible exact rfl | exact Nat.le_refl _ | with_reducible exact (fun _ _ => rfl) | ((conv => whnf); first | refine ⟨?_, ?_⟩ | exact trivial | fail))); first | ((all_goals ((rw [in_size c]))); done) | fail))
      | skip
    all_goals
      have hz := hs (by omega)
      have ein := hin (by omega)
    all_goals (try (have c1 : (m.turnS now).off = true := by assumption
                    rw [e2] at c1
                    rw [if_pos (show m.off = true from c1)] at ein))
    all_goals (try (have c1 : (m.turnS now).off = false := by assumption
                    rw [e2] at c1
                    rw [if_neg (fun h9 => by rw [show m.off = false from c1] at h9; cases h9)] at ein))
    all_goals (try (have c2 : IntKind.i64.wrap (IntKind.i64.wrap (size * 8) * 1000000000) ≤ (m.turnS now).p0 := by assumption
                    rw [e2, hz] at c2))
    all_goals (try (have c2 : ¬ IntKind.i64.wrap (IntKind.i64.wrap (size * 8) * 1000000000) ≤ (m.turnS now).p0 := by assumption
                    rw [e2, hz] at c2
                    rw [if_neg (fun h9 => c2 h9.1)] at ein))
    all_goals (try (have c4 : IntKind.i64.wrap (IntKind.i64.wrap (size * 8) * 1000000000) ≤ (m.turnS now).p1 := by assumption
                    rw [e2, hz] at c4))
    all_goals (try (have c4 : ¬ IntKind.i64.wrap (IntKind.i64.wrap (size * 8) * 1000000000) ≤ (m.turnS now).p1 := by assumption
                    rw [e2, hz] at c4))
    all_goals (try (have c6 : size * 8000000000 ≤ (m.turn now).p0 := c2
                    have c5 : size * 8000000000 ≤ (m.turn now).p0 ∧ ¬ (false = true ∧ m.aware = true) := ⟨c6, fun h9 => by cases h9.1⟩
                    rw [if_pos c5] at ein))
    all_goals (try rw [if_pos c4] at ein)
    all_goals (try rw [if_neg c4] at ein)
    all_goals (refine alt_one (by (repeat' (first | with_reducible exact rfl | exact Nat.le_refl _ | with_reducible exact (fun _ _ => rfl) | ((conv => whnf); first | refine ⟨?_, ?_⟩ | exact trivial | fail))); first | ((all_goals ((first | (rw [ein, e2, hz, w64' (by omega) (by omega)]; done) | (rw [ein, e2, hz, w64' (by omega) (by omega)]; rfl) | (rw [ein, e2]; done) | (rw [ein, e2]; rfl) | (rw [ein]; done) | (rw [ein]; rfl)))); done) | fail))
end

end Go.Proofs.Ytdphgjnflaahbaa
