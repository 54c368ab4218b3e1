/-
  Contracts of functions, and plain facts about them, that a claim of this seat uses.
-/
import Derived.Test.YtdphgjnflaahbaaSx
import Derived.Test.YtdphgjnflaahbaaMWideNum
import Derived.Test.YtdphgjnflaahbaaMRefA
import Derived.Test.YtdphgjnflaahbaaMRefB
import Derived.Test.YtdphgjnflaahbaaMWideU
import Derived.Test.YtdphgjnflaahbaaMLen
import Derived.Test.YtdphgjnflaahbaaMDiv64
import Derived.Test.YtdphgjnflaahbaaMDivU
import Derived.Test.YtdphgjnflaahbaaMMulDiv
import Derived.Test.YtdphgjnflaahbaaMHeld
import Derived.Test.YtdphgjnflaahbaaMRefM
import Derived.Test.YtdphgjnflaahbaaMRefD
import Derived.Test.YtdphgjnflaahbaaMRefE
import Derived.Test.YtdphgjnflaahbaaMetA
import Derived.Test.YtdphgjnflaahbaaMetB
import Derived.Test.YtdphgjnflaahbaaMetC
import Derived.Test.YtdphgjnflaahbaaMetD
import Derived.Test.YtdphgjnflaahbaaMetR
import Derived.Test.YtdphgjnflaahbaaProg
namespace Go.Proofs.Ytdphgjnflaahbaa
open Go.Sx
set_option linter.unusedVariables false
set_option linter.unusedSimpArgs false
set_option maxRecDepth 100000

/-! the reference's pails: In. -/
structure RM where
  rate : Int
  burst : Int
  more : Int
  beyond : Int
  couple : Bool
  aware : Bool
  shut : Bool
  last : Int
  a : IS
  b : IS
  off : Bool
def Lens.rm : Lens RM where
  sp := .agg [.i .i64, .i .i64, .i .i64, .i .i64, .b, .b, .b, .i .i64, .s [some .i64], .s [some .i64], .b]
  pat := fun a => match a with | .agg [.i .i64 a, .i .i64 b, .i .i64 c, .i .i64 d, .b e, .b f, .b g, .i .i64 h, .s l1 c1 n1 [.int .i64 g1], .s l2 c2 n2 [.int .i64 g2], .b k] => some ⟨a, b, c, d, e, f, g, h, ⟨l1, c1, n1, g1⟩, ⟨l2, c2, n2, g2⟩, k⟩ | _ => none
  arg := fun x => .agg [.i .i64 x.rate, .i .i64 x.burst, .i .i64 x.more, .i .i64 x.beyond, .b x.couple, .b x.aware, .b x.shut, .i .i64 x.last, .s x.a.len x.a.cap x.a.N [.int .i64 x.a.g], .s x.b.len x.b.cap x.b.N [.int .i64 x.b.g], .b x.off]
  ok := fun a x h => by
    split at h
    · cases h; rfl
    · cases h
def RM.mt (r : RM) : Mt := ⟨r.rate, r.burst, r.more, r.beyond, r.couple, r.aware, r.shut, r.last, nv r.a, nv r.b, r.off⟩
def RM.cells (j k : Nat) (r : RM) : List SA := [i_ r.rate, i_ r.burst, i_ r.more, i_ r.beyond, b_' r.couple, b_' r.aware, b_' r.shut, i_ r.last, .slc j 1 0 r.a.len r.a.cap, .slc k 1 0 r.b.len r.b.cap, b_' r.off]
/-- what both pails lack is not too much: then what is held at the end makes no difference -/
def Mt.gap (m : Mt) : Int := (m.burst * 1000000000 - m.p0) + (m.beyond * 1000000000 - m.p1)
structure RMOk (r : RM) : Prop where
  m : MOk r.mt
  a : Wf r.a
  b : Wf r.b
  gap : r.mt.gap ≤ 9223372036854775807
def Mt.rA (m : Mt) (now : Int) : Int := if m.p0 + (now - m.last) * m.rate ≤ m.burst * 1000000000 then m.p0 + (now - m.last) * m.rate else m.burst * 1000000000
def Mt.rO (m : Mt) (now : Int) : Int := if m.p0 + (now - m.last) * m.rate ≤ m.burst * 1000000000 then 0 else m.p0 + (now - m.last) * m.rate - m.burst * 1000000000
def Mt.rB (m : Mt) (now : Int) : Int := if m.p1 + (now - m.last) * m.more ≤ m.beyond * 1000000000 then m.p1 + (now - m.last) * m.more else m.beyond * 1000000000
def Mt.rC (m : Mt) (now : Int) : Int := if m.rB now + m.rO now ≤ m.beyond * 1000000000 then m.rB now + m.rO now else m.beyond * 1000000000
theorem ref_turn {m : Mt} (h : MOk m) (hg : m.gap ≤ 9223372036854775807) {now : Int} (h1 : m.last ≤ now) :
    m.rA now = (m.turn now).p0 ∧ (m.couple = false → m.rB now = (m.turn now).p1) ∧ (m.couple = true → m.rC now = (m.turn now).p1) ∧ 0 ≤ (now - m.last) * m.rate ∧ 0 ≤ (now - m.last) * m.more := by
  have z0 := Int.mul_nonneg (show 0 ≤ now - m.last by omega) h.r.1
  have z1 := Int.mul_nonneg (show 0 ≤ now - m.last by omega) h.mo.1
  have q0 := h.q0
  have q1 := h.q1
  have b0 := h.b
  have b1 := h.be
  unfold Mt.gap at hg
  have ea : m.rA now = m.p0 + m.in0 now := by
    unfold Mt.rA Mt.in0 mn prod
    rw [Int.mul_comm m.rate]
    generalize (now - m.last) * m.rate = z at *
    repeat' split
    all_goals omega
  have eb : m.rB now = m.p1 + m.in1 now := by
    unfold Mt.rB Mt.in1 mn prod
    rw [Int.mul_comm m.more]
    generalize (now - m.last) * m.more = z at *
    repeat' split
    all_goals omega
  have ec : m.rC now = m.p1 + m.in1 now + m.in2 now := by
    have i1 : m.in1 now ≤ m.beyond * 1000000000 - m.p1 ∧ 0 ≤ m.in1 now := by
      unfold Mt.in1 mn prod
      rw [Int.mul_comm m.more]
      generalize (now - m.last) * m.more = z at *
      constructor <;> (repeat' split) <;> omega
    unfold Mt.rC Mt.rO Mt.in2 Mt.over
    rw [eb]
    generalize m.in1 now = y at *
    unfold Mt.in0 mn prod
    rw [Int.mul_comm m.rate]
    generalize (now - m.last) * m.rate = z at *
    repeat' split
    all_goals omega
  refine ⟨ea, fun hc => ?_, fun hc => ?_, z0, z1⟩
  · rw [eb]; show _ = if m.couple = true then _ else _
    rw [hc]; rfl
  · rw [ec]; show _ = if m.couple = true then _ else _
    rw [hc]; rfl
theorem in_far {m : Mt} {now size : Int} {y : Bool} (h : 0 ≤ size ∧ size ≤ 1600) (h1 : m.last ≤ now) (h2 : 1099511627776 < now) : m.in_ now size y = (m, 2, 1) := by
  unfold Mt.in_
  rw [if_neg (by omega), if_neg (by omega)]; exact if_pos h2
section
variable {m : Mt} {now size : Int} {y : Bool} (h : 0 ≤ size ∧ size ≤ 1600) (h1 : m.last ≤ now) (h2 : now ≤ 1099511627776)
include h h1 h2
theorem in_off (ho : m.off = true) : m.in_ now size y = (m.turn now, 2, 0) := by
  unfold Mt.in_
  rw [if_neg (by omega), if_neg (by omega), if_neg (by omega)]; exact if_pos ho
theorem in_green (ho : ¬ m.off = true) (hg : size * 8000000000 ≤ (m.turn now).p0) (hy : ¬ (y = true ∧ m.aware = true)) : m.in_ now size y = ({ m.turn now with p0 := (m.turn now).p0 - size * 8000000000 }, 0, 0) := by
  unfold Mt.in_
  rw [if_neg (by omega), if_neg (by omega), if_neg (by omega), if_neg ho]; exact if_pos ⟨hg, hy⟩
theorem in_yellow (ho : ¬ m.off = true) (hg : ¬ size * 8000000000 ≤ (m.turn now).p0 ∨ (y = true ∧ m.aware = true)) (hy : size * 8000000000 ≤ (m.turn now).p1) : m.in_ now size y = ({ m.turn now with p1 := (m.turn now).p1 - size * 8000000000 }, 1, 0) := by
  unfold Mt.in_
  rw [if_neg (by omega), if_neg (by omega), if_neg (by omega), if_neg ho, if_neg (fun h9 => by rcases hg with h8 | h8; exact h8 h9.1; exact h9.2 h8)]; exact if_pos hy
theorem in_red (ho : ¬ m.off = true) (hg : ¬ size * 8000000000 ≤ (m.turn now).p0 ∨ (y = true ∧ m.aware = true)) (hy : ¬ size * 8000000000 ≤ (m.turn now).p1) : m.in_ now size y = ({ m.turn now with off := m.shut }, 2, 0) := by
  unfold Mt.in_
  rw [if_neg (by omega), if_neg (by omega), if_neg (by omega), if_neg ho, if_neg (fun h9 => by rcases hg with h8 | h8; exact h8 h9.1; exact h9.2 h8)]; exact if_neg hy
end
theorem alt_l {m0 : Mem} {ρ : List Nat} {v : SV} {m : Mem} {p : Prop} {v2 : SV} {m2 : Mem} {b : Alt} {l : List Alt} (hp : p) (h : altOne m0 ρ v m v2 m2) : anyAlt m0 ρ v m (.cond p v2 m2 :: b :: l) := .inl ⟨hp, h⟩
theorem not_t {b : Bool} (h : (!b) = true) : b = false := by cases b <;> first | rfl | cases h
theorem not_f {b : Bool} (h : (!b) = false) : b = true := by cases b <;> first | rfl | cases h
theorem DV.wf' {n : Int} {y : DS} (h : DV n y) : Wf ⟨y.len, y.cap, y.cap - 0, fun q => y.g (q + 0)⟩ := h.2.1
theorem dv_zero : DV 0 ⟨0, 0, fun _ => 0⟩ := DVal.full ⟨Nat.le_refl _, by decide, by decide, fun r hr => absurd hr (Nat.not_lt_zero r), .inl rfl, rfl⟩
theorem wf_len {s : IS} (h : Wf s) (hn : nv s < 340282366920938463463374607431768211456) : s.len ≤ 900 := by
  have h1 : DVal (nv s) ⟨s.len, s.cap, s.g⟩ := ⟨h.cap, h.max, h.small, h.dig, h.top, rfl⟩
  have := h1.len_le (k := 8) (by have : B 8 = 340282366920938463463374607431768211456 := by decide
                                 omega)
  dsimp only at this; omega
theorem cmp_le {u v : Int} (h : cmpI3 u v ≤ 0) : u ≤ v := by unfold cmpI3 at h; split at h <;> (try split at h) <;> omega
theorem cmp_gt {u v : Int} (h : ¬ cmpI3 u v ≤ 0) : ¬ u ≤ v := by unfold cmpI3 at h; split at h <;> (try split at h) <;> omega
theorem ns_bd {d k : Int} (h : 0 ≤ d ∧ d ≤ 1099511627776) (hk : 0 ≤ k ∧ k ≤ 8589934592) : 0 ≤ d * k ∧ d * k ≤ 9444732965739290427392 := by
  have h1 := Int.mul_nonneg h.1 hk.1
  have h2 : d * k ≤ 1099511627776 * 8589934592 := Int.mul_le_mul h.2 hk.2 hk.1 (by decide)
  omega
section
variable {r : RM} {now : Int}
theorem rA_pos (c : nv r.a + (now - r.last) * r.rate ≤ r.burst * 1000000000) : r.mt.rA now = nv r.a + (now - r.last) * r.rate ∧ r.mt.rO now = 0 := ⟨if_pos c, if_pos c⟩
theorem rA_neg (c : r.burst * 1000000000 < nv r.a + (now - r.last) * r.rate) : r.mt.rA now = r.burst * 1000000000 ∧ r.mt.rO now = nv r.a + (now - r.last) * r.rate - r.burst * 1000000000 := ⟨if_neg (by show ¬ nv r.a + (now - r.last) * r.rate ≤ r.burst * 1000000000; omega), if_neg (by show ¬ nv r.a + (now - r.last) * r.rate ≤ r.burst * 1000000000; omega)⟩
theorem rB_pos (c : nv r.b + (now - r.last) * r.more ≤ r.beyond * 1000000000) : r.mt.rB now = nv r.b + (now - r.last) * r.more := if_pos c
theorem rB_neg (c : r.beyond * 1000000000 < nv r.b + (now - r.last) * r.more) : r.mt.rB now = r.beyond * 1000000000 := if_neg (by show ¬ nv r.b + (now - r.last) * r.more ≤ r.beyond * 1000000000; omega)
theorem rC_pos (c : r.mt.rB now + r.mt.rO now ≤ r.beyond * 1000000000) : r.mt.rC now = r.mt.rB now + r.mt.rO now := if_pos c
theorem rC_neg (c : r.beyond * 1000000000 < r.mt.rB now + r.mt.rO now) : r.mt.rC now = r.beyond * 1000000000 := if_neg (by show ¬ r.mt.rB now + r.mt.rO now ≤ r.beyond * 1000000000; omega)
end
/-! the walk -/
def rinQ (x : RM × Int × Int × Bool) : Mt × Int × Int := x.1.mt.in_ x.2.1 x.2.2.1 x.2.2.2
def rinA (x : RM × Int × Int × Bool) : List Alt := [
  .cond ((rinQ x).2.2 ≠ 0) (.tup [.agg (x.1.cells 0 1), .a (i_ (rinQ x).2.1), .a (i_ (rinQ x).2.2)]) [roI x.1.a, roI x.1.b],
  .fam (DS × DS) (fun y => (rinQ x).2.2 = 0 ∧ DV (rinQ x).1.p0 y.1 ∧ DV (rinQ x).1.p1 y.2) (fun y => .tup [.agg (rmCells 2 3 { x.1.mt with last := x.2.1, off := (rinQ x).1.off } y.1 y.2), .a (i_ (rinQ x).2.1), .a (i_ 0)]) (fun y => [roI x.1.a, roI x.1.b, rwI y.1.cap y.1.g, rwI y.2.cap y.2.g])]
def tupIx (j : Nat) : SV → Nat
  | .tup (.agg l :: _) => (match l[j]? with | some x => x.ix | none => 0)
  | _ => 0
def rinRen (v : SV) : List Nat := bif Nat.beq (tupIx 8 v) 0 then [0, 1] else [0, 1, tupIx 8 v, tupIx 9 v]
def zRM : List SA := [i_ 0, i_ 0, i_ 0, i_ 0, .ff, .ff, .ff, i_ 0, .v (.slice none 0 0), .v (.slice none 0 0), .ff]
def slD (j : Nat) (y : DS) : SV := .one (.a (.slc j 1 0 y.len y.cap))
abbrev la10 (r : RM) (now size : Int) (yl : Bool) : LA where
  ι := DS × DS × DS
  inv := fun x => (0 ≤ size ∧ size ≤ 1600 ∧ r.last ≤ now ∧ now ≤ 1099511627776) ∧ DV (now - r.last) x.1 ∧ DV (r.mt.rA now) x.2.1 ∧ DV (r.mt.rO now) x.2.2
  T := fun x => ⟨133, [(1, int_ .i64 now), (2, int_ .i64 size), (3, b_ yl), (4, .one (.a (.ptr 2 0))), (8, .one (.a (.ptr 3 0))), (11, slD 4 x.1), (12, slD 5 x.2.1), (13, slD 6 x.2.2)], [roI r.a, roI r.b, some ⟨true, .flat (RM.cells 0 1 { r with last := now })⟩, some ⟨true, .flat zRM⟩, rwI x.1.cap x.1.g, rwI x.2.1.cap x.2.1.g, rwI x.2.2.cap x.2.2.g]⟩
  μ := fun _ => 0
  ren := fun S => [0, 1, S.ix 4, S.ix 8, S.ix 11, S.ix 12, S.ix 13]
abbrev la11 (r : RM) (now size : Int) (yl : Bool) : LA where
  ι := DS × DS × DS
  inv := fun x => (0 ≤ size ∧ size ≤ 1600 ∧ r.last ≤ now ∧ now ≤ 1099511627776) ∧ DV (r.mt.rB now) x.1 ∧ DV (r.mt.rA now) x.2.1 ∧ DV (r.mt.rO now) x.2.2
  T := fun x => ⟨133, [(1, int_ .i64 now), (2, int_ .i64 size), (3, b_ yl), (4, .one (.a (.ptr 2 0))), (8, .one (.a (.ptr 3 0))), (14, slD 4 x.1), (12, slD 5 x.2.1), (13, slD 6 x.2.2)], [roI r.a, roI r.b, some ⟨true, .flat (RM.cells 0 1 { r with last := now })⟩, some ⟨true, .flat zRM⟩, rwI x.1.cap x.1.g, rwI x.2.1.cap x.2.1.g, rwI x.2.2.cap x.2.2.g]⟩
  μ := fun _ => 0
  ren := fun S => [0, 1, S.ix 4, S.ix 8, S.ix 14, S.ix 12, S.ix 13]
abbrev la14 (r : RM) (now size : Int) (yl : Bool) : LA where
  ι := DS × DS
  inv := fun x => (0 ≤ size ∧ size ≤ 1600 ∧ r.last ≤ now ∧ now ≤ 1099511627776) ∧ DV (r.mt.turn now).p0 x.1 ∧ DV (r.mt.turn now).p1 x.2
  T := fun x => ⟨133, [(1, int_ .i64 now), (2, int_ .i64 size), (3, b_ yl), (4, .one (.a (.ptr 2 0))), (8, .one (.a (.ptr 3 0))), (12, slD 4 x.1), (14, slD 5 x.2)], [roI r.a, roI r.b, some ⟨true, .flat (RM.cells 0 1 { r with last := now })⟩, some ⟨true, .flat zRM⟩, rwI x.1.cap x.1.g, rwI x.2.cap x.2.g]⟩
  μ := fun _ => 0
  ren := fun S => [0, 1, S.ix 4, S.ix 8, S.ix 12, S.ix 14]
noncomputable def cxRIn (r : RM) (now size : Int) (yl : Bool) : Cx Try.prog := { ps := [cmpRefS], es := [absRefS, mulRefS, rbitsS, rfillS, subRefS], is := [], n0 := 2, loops := fun _ => none, cuts := fun i => match i with | 10 => some (la10 r now size yl) | 11 => some (la11 r now size yl) | 14 => some (la14 r now size yl) | _ => none, held := fun i => match i with | 9 => some (true, .take 0 (.take 1 (.take 2 (.take 3 (.take 4 (.take 5 (.take 8 (.take 9 (.take 10 (.one 6 (.one 7 (.one 11 (.one 12 (.take 13 (.take 14 (.take 15 (.take 16 (.take 17 .done)))))))))))))))))) | 10 => some (true, .take 0 (.take 1 (.take 2 (.take 3 (.take 4 (.take 5 (.take 8 (.take 9 (.take 10 (.one 6 (.one 7 (.one 11 (.one 12 (.take 13 (.take 14 (.take 15 (.take 16 (.take 17 .done)))))))))))))))))) | _ => none }
section
attribute [local irreducible] enter anyAlt
set_option maxHeartbeats 16000000 in
theorem rin_runs (x : RM × Int × Int × Bool) (hp : obp (some (RMOk x.1))) : Runs (cxRIn x.1 x.2.1 x.2.2.1 x.2.2.2) Try.f17 [.one (.agg (x.1.cells 0 1)), int_ .i64 x.2.1, int_ .i64 x.2.2.1, b_ x.2.2.2] [roI x.1.a, roI x.1.b] fun v m => anyAlt [roI x.1.a, roI x.1.b] (rinRen v) v m (rinA x) := by
  have hr : RMOk x.1 := hp
  obtain ⟨r, now, size, yl⟩ := x
  dsimp only at *
  have b1 : 0 ≤ r.rate ∧ r.rate ≤ 8589934592 := hr.m.r
  have b2 : 0 ≤ r.burst ∧ r.burst ≤ 8589934592 := hr.m.b
  have b3 : 0 ≤ r.more ∧ r.more ≤ 8589934592 := hr.m.mo
  have b4 : 0 ≤ r.beyond ∧ r.beyond ≤ 8589934592 := hr.m.be
  have b5 : 0 ≤ r.last ∧ r.last ≤ 1099511627776 := hr.m.l
  have b6 : 0 ≤ nv r.a ∧ nv r.a ≤ r.burst * 1000000000 := hr.m.q0
  have b7 : 0 ≤ nv r.b ∧ nv r.b ≤ r.beyond * 1000000000 := hr.m.q1
  have aR : absI r.rate = r.rate := if_neg (by omega)
  have aB : absI r.burst = r.burst := if_neg (by omega)
  have aM : absI r.more = r.more := if_neg (by omega)
  have aE : absI r.beyond = r.beyond := if_neg (by omega)
  have eA : nv { len := r.a.len, cap := r.a.cap, N := r.a.N - 0, g := fun q => r.a.g (q + 0) } = nv r.a := rfl
  have eB : nv { len := r.b.len, cap := r.b.cap, N := r.b.N - 0, g := fun q => r.b.g (q + 0) } = nv r.b := rfl
  have eN : ¬ now < r.last → ¬ 1099511627776 < now → absI (IntKind.i64.wrap (now - r.last)) = now - r.last := fun h1 h2 => by
    rw [w64' (by omega) (by omega)]; exact if_neg (by omega)
  have eQ : 0 ≤ size → size ≤ 1600 → absI (IntKind.i64.wrap (8 * size)) * 1000000000 = size * 8000000000 := fun h1 h2 => by
    rw [w64' (by omega) (by omega), show absI (8 * size) = 8 * size from if_neg (by omega)]; omega
  have pR : r.last ≤ now → now ≤ 1099511627776 → 0 ≤ (now - r.last) * r.rate ∧ (now - r.last) * r.rate ≤ 9444732965739290427392 := fun h1 h2 => ns_bd (by omega) b1
  have pM : r.last ≤ now → now ≤ 1099511627776 → 0 ≤ (now - r.last) * r.more ∧ (now - r.last) * r.more ≤ 9444732965739290427392 := fun h1 h2 => ns_bd (by omega) b3
  have hT := fun h1 => ref_turn hr.m hr.gap (now := now) h1
  have uB : r.mt.rB now ≤ r.beyond * 1000000000 := by
    show (if nv r.b + (now - r.last) * r.more ≤ r.beyond * 1000000000 then nv r.b + (now - r.last) * r.more else r.beyond * 1000000000) ≤ _
    split <;> omega
  have uO : r.last ≤ now → now ≤ 1099511627776 → r.mt.rO now ≤ 9444732965739290427392 + 8589934592000000000 := fun h1 h2 => by
    have := pR h1 h2
    show (if nv r.a + (now - r.last) * r.rate ≤ r.burst * 1000000000 then 0 else nv r.a + (now - r.last) * r.rate - r.burst * 1000000000) ≤ _
    split <;> omega
  have qO : (0 ≤ size ∧ size ≤ 1600) → r.last ≤ now → now ≤ 1099511627776 → r.off = true → rinQ (r, now, size, yl) = (r.mt.turn now, 2, 0) := fun h h1 h2 h3 => in_off h h1 h2 h3
  have nO : r.off = false → ¬ r.mt.off = true := fun h1 h2 => absurd (h1.symm.trans h2) (by decide)
  have qG : (0 ≤ size ∧ size ≤ 1600) → r.last ≤ now → now ≤ 1099511627776 → r.off = false → cmpI3 (size * 8000000000) (r.mt.turn now).p0 ≤ 0 → (yl = false ∨ r.aware = false) → rinQ (r, now, size, yl) = ({ r.mt.turn now with p0 := (r.mt.turn now).p0 - size * 8000000000 }, 0, 0) := fun h h1 h2 h3 h4 h5 => in_green h h1 h2 (nO h3) (cmp_le h4) (fun h9 => by
    rcases h5 with h5 | h5
    · exact absurd (h5.symm.trans h9.1) (by decide)
    · exact absurd (h5.symm.trans h9.2) (by decide))
  have qY : (0 ≤ size ∧ size ≤ 1600) → r.last ≤ now → now ≤ 1099511627776 → r.off = false → (¬ cmpI3 (size * 8000000000) (r.mt.turn now).p0 ≤ 0 ∨ (yl = true ∧ r.aware = true)) → cmpI3 (size * 8000000000) (r.mt.turn now).p1 ≤ 0 → rinQ (r, now, size, yl) = ({ r.mt.turn now with p1 := (r.mt.turn now).p1 - size * 8000000000 }, 1, 0) := fun h h1 h2 h3 h4 h5 => in_yellow h h1 h2 (nO h3) (h4.imp cmp_gt id) (cmp_le h5)
  have qR : (0 ≤ size ∧ size ≤ 1600) → r.last ≤ now → now ≤ 1099511627776 → r.off = false → (¬ cmpI3 (size * 8000000000) (r.mt.turn now).p0 ≤ 0 ∨ (yl = true ∧ r.aware = true)) → ¬ cmpI3 (size * 8000000000) (r.mt.turn now).p1 ≤ 0 → rinQ (r, now, size, yl) = ({ r.mt.turn now with off := r.mt.shut }, 2, 0) := fun h h1 h2 h3 h4 h5 => in_red h h1 h2 (nO h3) (h4.imp cmp_gt id) (cmp_gt h5)
  repeat' (first | with_reducible exact trivial | with_reducible exact rfl | with_reducible exact Nat.le_refl _ | with_reducible exact (fun _ _ => rfl) | ((conv => whnf); first | (refine fun (x : DS × DS × DS) => ?_) | (refine fun (y : DS × DS) => ?_) | (refine fun (z : DS) => ?_) | (refine fun _ => ?_) | refine ⟨?_, ?_⟩ | exact trivial | exact Nat.le_refl _ | exact lex_q (by kernel_rfl) | exact lex_t (by kernel_rfl) | exact lex_h (by kernel_rfl) | fail))
  any_goals first
    | (refine enter_mk (la := la10 r now size yl) (⟨_, _, _⟩, ⟨_, _, _⟩, ⟨_, _, _⟩) ?_ (by (repeat' (first | ((conv => whnf); first | refine ⟨?_, ?_⟩ | exact trivial | fail) | (dsimp only; done) | ((try dsimp only); first | with_reducible exact rfl | exact Nat.le_refl _ | with_reducible exact (fun _ _ => rfl)))); first | ((all_goals ((try dsimp only [la10] at *); (all_goals (try simp (disch := omega) only [w64', wu64', tdiv_pos, tmod_pos, Int.toNat_natCast, Nat.zero_add] at *)); (all_goals ((first | rfl | omega))))); done) | fail))
    | (refine enter_mk (la := la11 r now size yl) (⟨_, _, _⟩, ⟨_, _, _⟩, ⟨_, _, _⟩) ?_ (by (repeat' (first | ((conv => whnf); first | refine ⟨?_, ?_⟩ | exact trivial | fail) | (dsimp only; done) | ((try dsimp only); first | with_reducible exact rfl | exact Nat.le_refl _ | with_reducible exact (fun _ _ => rfl)))); first | ((all_goals ((try dsimp only [la11] at *); (all_goals (try simp (disch := omega) only [w64', wu64', tdiv_pos, tmod_pos, Int.toNat_natCast, Nat.zero_add] at *)); (all_goals ((first | rfl | omega))))); done) | fail))
    | (refine enter_mk (la := la14 r now size yl) (⟨_, _, _⟩, ⟨_, _, _⟩) ?_ (by (repeat' (first | ((conv => whnf); first | refine ⟨?_, ?_⟩ | exact trivial | fail) | (dsimp only; done) | ((try dsimp only); first | with_reducible exact rfl | exact Nat.le_refl _ | with_reducible exact (fun _ _ => rfl)))); first | ((all_goals ((try dsimp only [la14] at *); (all_goals (try simp (disch := omega) only [w64', wu64', tdiv_pos, tmod_pos, Int.toNat_natCast, Nat.zero_add] at *)); (all_goals ((first | rfl | omega))))); done) | fail))
    | skip
  all_goals (try dsimp only [la10, la11, la14, cutR, cutL, id] at *)
  all_goals (try omega)
  all_goals (try exact (wr_bd _).1)
  all_goals (try exact (wr_bd _).2)
  all_goals (try simp only [aR, aB, aM, aE, eA, eB] at *)
  all_goals (try simp only [eN (by assumption) (by assumption)] at *)
  all_goals (try (obtain ⟨⟨a1, a2, a3, a4⟩, d1, d2, d3⟩ := ‹(0 ≤ size ∧ _) ∧ DV _ x.1 ∧ DV _ x.2.1 ∧ DV _ x.2.2›))
  all_goals (try (obtain ⟨⟨a1, a2, a3, a4⟩, d1, d2⟩ := ‹(0 ≤ size ∧ _) ∧ DV _ y.1 ∧ DV _ y.2›))
  all_goals (try simp only [eQ a1 a2] at *)
  all_goals (try exact DV.wf' (by assumption))
  all_goals (try exact hr.a)
  all_goals (try exact hr.b)
  all_goals (try exact wf_len hr.a (by omega))
  all_goals (try exact wf_len hr.b (by omega))
  all_goals (try (have w1 := (‹DV (now - r.last) _›).2.2.1; simp only [w1] at *))
  all_goals (try (have w1 := (‹DV r.rate _›).2.2.1; simp only [w1] at *))
  all_goals (try (have w1 := (‹DV r.more _›).2.2.1; simp only [w1] at *))
  all_goals (try (have w1 := (‹DV (r.burst * 1000000000) _›).2.2.1; simp only [w1] at *))
  all_goals (try (have w1 := (‹DV (r.beyond * 1000000000) _›).2.2.1; simp only [w1] at *))
  all_goals (try (have w1 := (‹DV ((now - r.last) * r.rate) _›).2.2.1; simp only [w1] at *))
  all_goals (try (have w1 := (‹DV ((now - r.last) * r.more) _›).2.2.1; simp only [w1] at *))
  all_goals (try (have w1 := (‹DV (r.mt.rB now) _›).2.2.1; simp only [w1] at *))
  all_goals (try (have w1 := (‹DV (r.mt.rO now) _›).2.2.1; simp only [w1] at *))
  all_goals (try (have w1 := (‹DV (size * 8000000000) _›).2.2.1; simp only [w1] at *))
  all_goals (try (have w1 := (‹DV (r.mt.turn now).p0 _›).2.2.1; simp only [w1] at *))
  all_goals (try (have w1 := (‹DV (r.mt.turn now).p1 _›).2.2.1; simp only [w1] at *))
  all_goals (try exact cmp_le (by assumption))
  all_goals (try exact Nat.le_trans (dv8 (by assumption : DV (now - r.last) _) (by omega)) (by decide))
  all_goals (try exact Nat.le_trans (dv8 (by assumption : DV r.rate _) (by omega)) (by decide))
  all_goals (try exact Nat.le_trans (dv8 (by assumption : DV r.more _) (by omega)) (by decide))
  all_goals (try exact Nat.le_trans (dv8 (by assumption : DV ((now - r.last) * r.rate) _) (by have := pR (by omega) (by omega); omega)) (by decide))
  all_goals (try exact Nat.le_trans (dv8 (by assumption : DV ((now - r.last) * r.more) _) (by have := pM (by omega) (by omega); omega)) (by decide))
  all_goals (try exact Nat.le_trans (dv8 d1 (by omega)) (by decide))
  all_goals (try exact Nat.le_trans (dv8 d3 (by have := uO (by omega) (by omega); omega)) (by decide))
  all_goals (try (
    obtain ⟨c1, d4⟩ := ‹nv r.a + (now - r.last) * r.rate ≤ r.burst * 1000000000 ∧ DV _ z›
    refine ⟨by omega, by assumption, ?_, ?_⟩
    · rw [(rA_pos c1).1]; exact d4
    · rw [(rA_pos c1).2]; exact dv_zero))
  all_goals (try (
    obtain ⟨c1, d4⟩ := ‹r.burst * 1000000000 < nv r.a + (now - r.last) * r.rate ∧ DV _ z›
    refine ⟨by omega, by assumption, ?_, ?_⟩
    · rw [(rA_neg c1).1]; assumption
    · rw [(rA_neg c1).2]; exact d4))
  all_goals (try (
    obtain ⟨c1, d4⟩ := ‹nv r.b + (now - r.last) * r.more ≤ r.beyond * 1000000000 ∧ DV _ z›
    exact ⟨⟨a1, a2, a3, a4⟩, by rw [rB_pos c1]; exact d4, d2, d3⟩))
  all_goals (try (
    obtain ⟨c1, d4⟩ := ‹r.beyond * 1000000000 < nv r.b + (now - r.last) * r.more ∧ DV _ z›
    exact ⟨⟨a1, a2, a3, a4⟩, by rw [rB_neg c1]; assumption, d2, d3⟩))
  all_goals (try (
    obtain ⟨c1, d4⟩ := ‹r.mt.rB now + r.mt.rO now ≤ r.beyond * 1000000000 ∧ DV _ z›
    exact ⟨⟨a1, a2, a3, a4⟩, by rw [← (hT a3).1]; exact d2, by rw [← (hT a3).2.2.1 (by assumption), rC_pos c1]; exact d4⟩))
  all_goals (try (
    obtain ⟨c1, d4⟩ := ‹r.beyond * 1000000000 < r.mt.rB now + r.mt.rO now ∧ DV _ z›
    exact ⟨⟨a1, a2, a3, a4⟩, by rw [← (hT a3).1]; exact d2, by rw [← (hT a3).2.2.1 (by assumption), rC_neg c1]; assumption⟩))
  all_goals (try exact ⟨⟨a1, a2, a3, a4⟩, by rw [← (hT a3).1]; exact d2, by rw [← (hT a3).2.1 (by assumption)]; exact d1⟩)
  all_goals (try (have ein : rinQ (r, now, size, yl) = (r.mt, 2, 1) := in_size (m := r.mt) (now := now) (size := size) (y := yl) (by omega)))
  all_goals (try (have ein : rinQ (r, now, size, yl) = (r.mt, 2, 31) := in_late (m := r.mt) (now := now) (size := size) (y := yl) (by omega) (show now < r.last by omega)))
  all_goals (try (have ein : rinQ (r, now, size, yl) = (r.mt, 2, 1) := in_far (m := r.mt) (now := now) (size := size) (y := yl) (by omega) (show r.last ≤ now by omega) (by omega)))
  all_goals (try (have ein := qO ⟨a1, a2⟩ a3 a4 (by assumption)))
  all_goals (try (have ein := qG ⟨a1, a2⟩ a3 a4 (by assumption) (by assumption) (by first | exact .inl (by assumption) | exact .inr (not_t (by assumption)))))
  all_goals (try (have ein := qY ⟨a1, a2⟩ a3 a4 (by assumption) (by first | exact .inl (by assumption) | exact .inr ⟨by assumption, not_f (by assumption)⟩) (by assumption)))
  all_goals (try (have ein := qR ⟨a1, a2⟩ a3 a4 (by assumption) (by first | exact .inl (by assumption) | exact .inr ⟨by assumption, not_f (by assumption)⟩) (by assumption)))
  any_goals first
    | (refine alt_l ?_ (by (repeat' (first | with_reducible exact rfl | exact Nat.le_refl _ | with_reducible exact (fun _ _ => rfl) | ((conv => whnf); first | refine ⟨?_, ?_⟩ | exact trivial | fail))); first | ((all_goals ((try dsimp only [id] at *); (all_goals (try simp (disch := omega) only [w64', wu64', tdiv_pos, tmod_pos, Int.toNat_natCast, Nat.zero_add] at *)); (all_goals ((first | rfl | (rw [ein]; done) | (rw [ein]; rfl)))))); done) | fail))
    | (refine alt_r (alt_fam (α := DS × DS) (y.1, z) ?_ (by (repeat' (first | with_reducible exact rfl | exact Nat.le_refl _ | with_reducible exact (fun _ _ => rfl) | ((conv => whnf); first | refine ⟨?_, ?_⟩ | exact trivial | fail))); first | ((all_goals ((try dsimp only [id] at *); (all_goals (try simp (disch := omega) only [w64', wu64', tdiv_pos, tmod_pos, Int.toNat_natCast, Nat.zero_add] at *)); (all_goals ((first | rfl | (rw [ein]; done) | (rw [ein]; rfl)))))); done) | fail)))
    | (refine alt_r (alt_fam (α := DS × DS) (z, y.2) ?_ (by (repeat' (first | with_reducible exact rfl | exact Nat.le_refl _ | with_reducible exact (fun _ _ => rfl) | ((conv => whnf); first | refine ⟨?_, ?_⟩ | exact trivial | fail))); first | ((all_goals ((try dsimp only [id] at *); (all_goals (try simp (disch := omega) only [w64', wu64', tdiv_pos, tmod_pos, Int.toNat_natCast, Nat.zero_add] at *)); (all_goals ((first | rfl | (rw [ein]; done) | (rw [ein]; rfl)))))); done) | fail)))
    | (refine alt_r (alt_fam (α := DS × DS) y ?_ (by (repeat' (first | with_reducible exact rfl | exact Nat.le_refl _ | with_reducible exact (fun _ _ => rfl) | ((conv => whnf); first | refine ⟨?_, ?_⟩ | exact trivial | fail))); first | ((all_goals ((try dsimp only [id] at *); (all_goals (try simp (disch := omega) only [w64', wu64', tdiv_pos, tmod_pos, Int.toNat_natCast, Nat.zero_add] at *)); (all_goals ((first | rfl | (rw [ein]; done) | (rw [ein]; rfl)))))); done) | fail)))
    | skip
  all_goals (try (rw [ein]; first | exact ⟨rfl, by assumption, by assumption⟩ | (dsimp only; decide)))
end

end Go.Proofs.Ytdphgjnflaahbaa
