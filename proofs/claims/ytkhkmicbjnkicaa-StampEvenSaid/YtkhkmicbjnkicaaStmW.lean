/-
  Contracts of functions, and plain facts about them, that a claim of this seat uses.
-/
import Derived.Test.YtkhkmicbjnkicaaSx
import Derived.Shelf.SlGeneric
import Derived.Shelf.SlIterI.Nil
import Derived.Shelf.SortM.Plain
import Derived.Shelf.SortM.SortNone
import Derived.RangeFuncBox
import Derived.RangeFuncLeaves
import Derived.Shelf.Abstract
import Derived.Shelf.AbstractIn
import Derived.WalkKit
import Derived.OwnWalkIn
import Derived.TacticsInMore
import Derived.LoopNIn
import Derived.LoopIn
import Derived.Test.YtkhkmicbjnkicaaStmNum
import Derived.Test.YtkhkmicbjnkicaaProg
namespace Go.Proofs.Ytkhkmicbjnkicaa
open Go.Sx
set_option linter.unusedVariables false
set_option linter.unusedSimpArgs false
set_option maxRecDepth 100000

/-! slices.Sorted(slices.Values(list)): the shelf's contracts at this program; the iterator over a slice; what is collected. -/
open Go.RowKit Go.Shelf Go.Sort
def sortedL_ren : Go.Shelf.Ren := ⟨fun | 6 => 12 | 8 => 15 | 9 => 16 | 11 => 23 | 13 => 25 | 12 => 24 | 23 => 38 | 24 => 39 | 14 => 29 | 15 => 30 | 16 => 31 | 17 => 32 | 18 => 33 | 19 => 34 | 20 => 35 | 21 => 36 | 22 => 37 | 25 => 41 | 26 => 42 | 27 => 43 | 28 => 44 | 29 => 45 | 30 => 46 | 31 => 47 | n => n, fun | 26 => 25 | 28 => 40 | 24 => 24 | 0 => 0 | 3 => 3 | 37 => 59 | 48 => 73 | 50 => 46 | 4 => 4 | 40 => 65 | 39 => 64 | 45 => 70 | 5 => 5 | 9 => 9 | 51 => 77 | 55 => 81 | 57 => 83 | 58 => 29 | 33 => 45 | n => n, fun | n => n⟩
theorem sortedL : Go.Proofs.SlLaysZI.n6 Try.prog sortedL_ren := {
  mixed := by kernel_rfl
  f6 := ⟨Try.f12.name, by decide, Try.func12.trans (congrArg some (by kernel_rfl))⟩
  f8 := ⟨Try.f15.name, by decide, Try.func15.trans (congrArg some (by kernel_rfl))⟩
  f11 := ⟨Try.f23.name, by decide, Try.func23.trans (congrArg some (by kernel_rfl))⟩
  t0 := Try.underlying0
  a0 := Try.isAgg0
  z0 := Try.sizeOf0
  v0 := Try.zeroValue0
  t24 := Try.underlying24
  a24 := Try.isAgg24
  z24 := Try.sizeOf24
  v24 := Try.zeroValue24
  t26 := Try.underlying25
  a26 := Try.isAgg25
  z26 := Try.sizeOf25
  v26 := Try.zeroValue25
  t28 := Try.underlying40
  a28 := Try.isAgg40
  z28 := Try.sizeOf40
  v28 := Try.zeroValue40
  i26 := by kernel_rfl }
def sortL_ren : Go.Shelf.Ren := ⟨fun | 5 => 16 | 8 => 25 | 7 => 24 | 19 => 38 | 20 => 39 | 10 => 29 | 11 => 30 | 12 => 31 | 13 => 32 | 14 => 33 | 15 => 34 | 16 => 35 | 17 => 36 | 18 => 37 | 30 => 41 | 31 => 42 | 32 => 43 | 33 => 44 | 34 => 45 | 35 => 46 | 40 => 47 | n => n, fun | 23 => 24 | 25 => 25 | 3 => 3 | 32 => 59 | 22 => 24 | 0 => 0 | 44 => 73 | 46 => 46 | 4 => 4 | 36 => 65 | 35 => 64 | 41 => 70 | 5 => 5 | 9 => 9 | 53 => 77 | 57 => 81 | 63 => 83 | 64 => 29 | n => n, fun | n => n⟩
theorem sortL : Go.Proofs.SlLaysM.n5 Try.prog sortL_ren := {
  mixed := by kernel_rfl
  f5 := ⟨Try.f16.name, by decide, Try.func16.trans (congrArg some (by kernel_rfl))⟩
  f7 := ⟨Try.f24.name, by decide, Try.func24.trans (congrArg some (by kernel_rfl))⟩
  f8 := Try.func25.trans (congrArg some (by kernel_rfl))
  f10 := ⟨Try.f29.name, by decide, Try.func29.trans (congrArg some (by kernel_rfl))⟩
  f11 := ⟨Try.f30.name, by decide, Try.func30.trans (congrArg some (by kernel_rfl))⟩
  f12 := ⟨Try.f31.name, by decide, Try.func31.trans (congrArg some (by kernel_rfl))⟩
  f13 := ⟨Try.f32.name, by decide, Try.func32.trans (congrArg some (by kernel_rfl))⟩
  f14 := ⟨Try.f33.name, by decide, Try.func33.trans (congrArg some (by kernel_rfl))⟩
  f15 := ⟨Try.f34.name, by decide, Try.func34.trans (congrArg some (by kernel_rfl))⟩
  f16 := ⟨Try.f35.name, by decide, Try.func35.trans (congrArg some (by kernel_rfl))⟩
  f17 := ⟨Try.f36.name, by decide, Try.func36.trans (congrArg some (by kernel_rfl))⟩
  f18 := ⟨Try.f37.name, by decide, Try.func37.trans (congrArg some (by kernel_rfl))⟩
  f19 := Try.func38.trans (congrArg some (by kernel_rfl))
  f20 := Try.func39.trans (congrArg some (by kernel_rfl))
  f30 := ⟨Try.f41.name, by decide, Try.func41.trans (congrArg some (by kernel_rfl))⟩
  f31 := Try.func42.trans (congrArg some (by kernel_rfl))
  f32 := Try.func43.trans (congrArg some (by kernel_rfl))
  f33 := ⟨Try.f44.name, by decide, Try.func44.trans (congrArg some (by kernel_rfl))⟩
  f34 := ⟨Try.f45.name, by decide, Try.func45.trans (congrArg some (by kernel_rfl))⟩
  f35 := ⟨Try.f46.name, by decide, Try.func46.trans (congrArg some (by kernel_rfl))⟩
  f40 := ⟨Try.f47.name, by decide, Try.func47.trans (congrArg some (by kernel_rfl))⟩
  t0 := Try.underlying0
  a0 := Try.isAgg0
  z0 := Try.sizeOf0
  v0 := Try.zeroValue0
  t3 := Try.underlying3
  a3 := Try.isAgg3
  z3 := Try.sizeOf3
  v3 := Try.zeroValue3
  t4 := Try.underlying4
  a4 := Try.isAgg4
  z4 := Try.sizeOf4
  v4 := Try.zeroValue4
  t5 := Try.underlying5
  a5 := Try.isAgg5
  z5 := Try.sizeOf5
  v5 := Try.zeroValue5
  t9 := Try.underlying9
  a9 := Try.isAgg9
  z9 := Try.sizeOf9
  v9 := Try.zeroValue9
  t22 := Try.underlying24
  a22 := Try.isAgg24
  z22 := Try.sizeOf24
  v22 := Try.zeroValue24
  t23 := Try.underlying24
  a23 := Try.isAgg24
  z23 := Try.sizeOf24
  v23 := Try.zeroValue24
  t25 := Try.underlying25
  a25 := Try.isAgg25
  z25 := Try.sizeOf25
  v25 := Try.zeroValue25
  t32 := Try.underlying59
  a32 := Try.isAgg59
  z32 := Try.sizeOf59
  v32 := Try.zeroValue59
  t35 := Try.underlying64
  a35 := Try.isAgg64
  z35 := Try.sizeOf64
  v35 := Try.zeroValue64
  t36 := Try.underlying65
  a36 := Try.isAgg65
  z36 := Try.sizeOf65
  v36 := Try.zeroValue65
  t41 := Try.underlying70
  a41 := Try.isAgg70
  z41 := Try.sizeOf70
  v41 := Try.zeroValue70
  t44 := Try.underlying73
  a44 := Try.isAgg73
  z44 := Try.sizeOf73
  v44 := Try.zeroValue73
  t46 := Try.underlying46
  a46 := Try.isAgg46
  z46 := Try.sizeOf46
  v46 := Try.zeroValue46
  t53 := Try.underlying77
  a53 := Try.isAgg77
  z53 := Try.sizeOf77
  v53 := Try.zeroValue77
  t57 := Try.underlying81
  a57 := Try.isAgg81
  z57 := Try.sizeOf81
  v57 := Try.zeroValue81
  t63 := Try.underlying83
  a63 := Try.isAgg83
  z63 := Try.sizeOf83
  v63 := Try.zeroValue83
  t64 := Try.underlying29
  a64 := Try.isAgg29
  z64 := Try.sizeOf29
  v64 := Try.zeroValue29 }

attribute [local go_sem] Oper.semAt_some
def encV (x : Int) : Value := .int .i64 x
def upto (f : Nat → Int) (k : Nat) : List Int := (List.range k).map f
theorem upto_succ (f : Nat → Int) (k : Nat) : upto f (k + 1) = upto f k ++ [f k] := by simp [upto, List.range_succ]
theorem upto_length (f : Nat → Int) (k : Nat) : (upto f k).length = k := by simp [upto]
theorem upto_all (zs : List Int) : upto (fun j => zs[j]?.getD 0) zs.length = zs := by
  apply List.ext_getElem
  · simp [upto]
  · intro i h1 h2
    simp [upto, h2]
set_option maxRecDepth 100000 in
set_option maxHeartbeats 2000000 in
theorem values1_in (F : Fence) (n : Nat) (h7 : F.fn 17) (hro : F.round = none) (hn : 1 ≤ n) (l Bs n₀ b off len cap : Nat) (zs : List Int) (hreach : len * 8 ≤ 140737488351232) (hb : b < n₀) (J Jx : List Int → World → Prop)
    (hY : ∀ pre x W, J pre W → pre.length < len → YieldAt F (n - 1) Try.prog l #[.int .i64 x] W fun e W' =>
      (e = .returned (.bool true) ∧ J (pre ++ [x]) W' ∧ Below n₀ W W') ∨ (e = .returned (.bool false) ∧ Jx (pre ++ [x]) W'))
    (W : World) (hBs : W.cell? ⟨Bs, 0, none⟩ = some (.slice (some ⟨b, off, none⟩) len cap)) (hc : ∀ j, j < len → W.cell? ⟨b, off + j, none⟩ = some (.int .i64 (zs[j]?.getD 0))) (h0 : J [] W) :
    CallsIn F n Try.prog 17 #[.func (.yield l) #[] #[], .pointer (some ⟨Bs, 0, none⟩)] W fun e W' => (∃ v, e = .returned v) ∧
      ((∃ ys, ys = upto (fun j => zs[j]?.getD 0) len ∧ J ys W') ∨ (∃ pre, (∃ k, k ≤ len ∧ pre = upto (fun j => zs[j]?.getD 0) k) ∧ Jx pre W')) := by
  refine callsIn_of_wp Try.func17 rfl h7 ?_ hro
  simp only [Try.ntmps17, List.size_toArray, List.length_cons, List.length_nil, Nat.reduceAdd, Nat.reduceSub, Array.replicate_succ, Array.replicate_zero, List.push_toArray, List.append_toArray, List.nil_append, List.cons_append]
  gi_wp2
  gi_loopw [7] (fun i wr => ∃ k : Nat, k ≤ len ∧ i = .int .i64 k ∧ J (upto (fun j => zs[j]?.getD 0) k) wr ∧ Below n₀ W wr)
    (fun i _ => len - (intOf i).toNat)
  case atStart => exact ⟨0, Nat.zero_le _, rfl, h0, Below.refl _ _⟩
  case round =>
    obtain ⟨k, hk, rfl, hJs, hnx⟩ := hrel
    have hcx : k < len → wr.cell? ⟨b, off + k, none⟩ = some (.int .i64 (zs[k]?.getD 0)) := fun h => (hnx.cell (p := ⟨b, off + k, none⟩) hb).trans (hc k h)
    by_cases hlt : k < len
    · obtain ⟨fn, tmps, assign, body, hy, hR⟩ := hY _ (zs[k]?.getD 0) wr hJs (by rw [upto_length]; exact hlt)
      have hcx' := hcx hlt
      gi_wp2
      refine hR.mono ?_
      rintro e W3 (⟨rfl, hJ3, hk3⟩ | ⟨rfl, hJx3⟩)
      · gi_wp2
        go_roundw
        case rel => exact ⟨k + 1, by omega, by simp, by rw [upto_succ]; exact hJ3, hnx.trans hk3⟩
        case measure => simp [intOf]; omega
      · gi_wp2
        refine bodyPost_ret (results_none rfl _ _ _) rfl ?_
        exact ⟨⟨_, rfl⟩, .inr ⟨_, ⟨k + 1, by omega, (upto_succ _ _).symm⟩, hJx3⟩⟩
    · obtain rfl : k = len := by omega
      gi_wp2
      go_end0
      exact ⟨⟨_, rfl⟩, .inl ⟨_, rfl, hJs⟩⟩
theorem upto_take (zs : List Int) {k : Nat} (hk : k ≤ zs.length) : upto (fun j => zs[j]?.getD 0) k = zs.take k := by
  apply List.ext_getElem
  · simp [upto, hk]
  · intro i h1 h2
    have : i < zs.length := by simp [upto] at h1; omega
    simp [upto, this]
/-- the slice holds these numbers, in a block below n₀ -/
structure Ints (n₀ : Nat) (W : World) (sv : Value) (zs : List Int) : Prop where
  ex : ∃ b off cap, sv = .slice (some ⟨b, off, none⟩) zs.length cap ∧ b < n₀ ∧ ∀ j, j < zs.length → W.cell? ⟨b, off + j, none⟩ = some (.int .i64 (zs[j]?.getD 0))
theorem Ints.below {n₀ : Nat} {A B : World} (h : Below n₀ A B) {sv : Value} {zs : List Int} (hi : Ints n₀ A sv zs) : Ints n₀ B sv zs := by
  obtain ⟨b, off, cap, e, hb, hc⟩ := hi.ex
  exact ⟨b, off, cap, e, hb, fun j hj => (h.cell (p := ⟨b, off + j, none⟩) hb).trans (hc j hj)⟩
set_option maxHeartbeats 1000000 in
theorem values_in (F : Fence) (n : Nat) (h5 : F.fn 13) (hro : F.round = none) (a : Option Addr) (len cap : Nat) (w : World) :
    CallsIn F n Try.prog 13 #[.slice a len cap] w fun e w' => e = .returned (.func (.func 17) #[] #[.pointer (some ⟨w.heap.size, 0, none⟩)]) ∧ w' = w.alloc (.cells #[.slice a len cap] 24) := by
  refine callsIn_of_wp Try.func13 rfl h5 ?_ hro
  simp only [Try.ntmps13, List.size_toArray, List.length_cons, List.length_nil, Nat.reduceAdd, Nat.reduceSub, Array.replicate_succ, Array.replicate_zero, List.push_toArray, List.append_toArray, List.nil_append, List.cons_append]
  gi_wp2
  go_ret
  exact ⟨rfl, rfl⟩
theorem values_stops (F : Fence) (n : Nat) (h7 : F.fn 17) (hro : F.round = none) (hn : 1 ≤ n) (Bs n₀ : Nat) (sv : Value) (zs : List Int) (hreach : zs.length * 8 ≤ 140737488351232) (w : World) (hBs : Bs < w.heap.size) (hn₀ : n₀ ≤ w.heap.size)
    (hc : w.cell? ⟨Bs, 0, none⟩ = some sv) (hI : Ints n₀ w sv zs) :
    SeqStopsK F n Try.prog 17 #[.pointer (some ⟨Bs, 0, none⟩)] (fun x : Int => #[Value.int .i64 x]) (Below n₀) (fun ys => ys = zs) (fun pre => pre <+: zs) zs.length w := fun l J Jx W hW _ _ hY h0 => by
  have hc' := (hW.cell (p := ⟨Bs, 0, none⟩) hBs).trans hc
  obtain ⟨b, off, cap, rfl, hb, hcs⟩ := (hI.below (hW.mono hn₀)).ex
  refine (values1_in F n h7 hro hn l Bs n₀ b off zs.length cap zs hreach hb J Jx hY W hc' hcs h0).mono ?_
  rintro e W' ⟨he, ⟨ys, rfl, hj⟩ | ⟨pre, ⟨k, hk, rfl⟩, hj⟩⟩
  · exact ⟨he, .inl ⟨_, upto_all zs, hj⟩⟩
  · exact ⟨he, .inr ⟨_, by rw [upto_take zs hk]; exact List.take_prefix _ _, hj⟩⟩
/-! what is collected -/
theorem info25 : (Try.prog.info? 25).map (fun i => (i.zero, i.size, i.bytes)) = some (some (.int .i64 0), 1, 8) := by kernel_rfl
set_option maxRecDepth 100000 in
set_option maxHeartbeats 2000000 in
theorem append_in (F : Fence) (n : Nat) (h3 : F.fn 23) (h5 : F.fn 17) (hro : F.round = none) (hn : 3 ≤ n) (Bs : Nat) (sv : Value) (zs : List Int) (hlen : zs.length ≤ maxLen) (hbytes : zs.length * 8 ≤ 140737488351232) (w : World) (hBs : Bs < w.heap.size) (hcs : w.cell? ⟨Bs, 0, none⟩ = some sv) (hI : Ints w.heap.size w sv zs) :
    CallsIn F n Try.prog 23 #[.slice none 0 0, .func (.func 17) #[] #[.pointer (some ⟨Bs, 0, none⟩)]] w fun e W' => ∃ v, e = .returned v ∧ W'.ownsRow w.heap.size 25 1 v zs.length (zs.map (Value.int .i64)) ∧ (v = .slice none 0 0 ↔ zs = []) ∧ Below w.heap.size w W' := by
  have h1 : 1 ≤ n := by omega
  obtain ⟨i0, hi, hz0, hz1, hz2⟩ := info_parts info25
  refine callsIn_of_wp_marks Try.func23 rfl h3 ?_ hro
  simp only [Try.ntmps23, List.size_toArray, List.length_cons, List.length_nil, Nat.reduceAdd, Nat.reduceSub, Array.replicate_succ, Array.replicate_zero, List.push_toArray, List.append_toArray, List.nil_append, List.cons_append]
  gi_wp2
  have bO := Boxed.new w 24 (.slice none 0 0)
  have hB0 : Below w.heap.size w (w.alloc (.cells #[.slice none 0 0] 24)) := (Below.refl _ w).alloc (Nat.le_refl _) _
  refine wpIn_rangeFunc_ownG hro h1 (gf := 17) (lb := #[.pointer (some ⟨Bs, 0, none⟩)]) rfl h5 (enters_of Try.func17 (by kernel_rfl) rfl)
    (values_stops F (n - 1) h5 hro (by omega) Bs w.heap.size sv zs hbytes _ (by simp; omega) (by simp) ((hB0.cell (p := ⟨Bs, 0, none⟩) hBs).trans hcs) (hI.below hB0)) belowK_t (belowK_b (by simp)) (Below.refl _ _) (fun _ => rfl)
    (fun pre W => (∃ v, Boxed W w.heap.size 24 v ∧ W.ownsRow w.heap.size 25 1 v pre.length (pre.map (Value.int .i64)) ∧ (v = .slice none 0 0 ↔ pre = [])) ∧ Below w.heap.size w W)
    (fun _ _ _ => False)
    (OwnFrom.and (Own.from (holdsRow_own w.heap.size w.heap.size 24 25 1 (fun pre : List Int => pre.length) (fun pre => pre.map (Value.int .i64)) (fun pre v => v = .slice none 0 0 ↔ pre = [])) _) (ownFrom_below (Nat.le_refl _) (by simp)))
    (fun _ _ _ _ _ hs _ _ => hs)
    ⟨⟨_, bO, World.ownsRow_nil _ _ _ _, by simp⟩, hB0⟩
    (fun x => { tmps := #[.slice none 0 0, .func (.func 17) #[] #[.pointer (some ⟨Bs, 0, none⟩)], .pointer (some ⟨w.heap.size, 0, none⟩), undef, .slice none 0 0, .int .i64 x, .func (.func 17) #[] #[.pointer (some ⟨Bs, 0, none⟩)], .int .i64 x, undef, undef, undef, undef, undef], defers := [] }) ?assign ?body ?done ?stop
  case assign =>
    intro l x W K hK
    gi_wp2
    exact hK
  case body =>
    rintro l pre x W ⟨⟨v, hv, hrow, hnil⟩, hB⟩ hlt
    have hc := hv.cell
    gi_wp2_with (gi_at_builtin; refine wpListIn_append_own _ rfl _ _ 24 rfl w.heap.size 25 i0 (.int .i64 0) 1 8 Try.underlying24 hi hz0 hz1 hz2 rfl (by decide) _ _ _ rfl (hrow.alloc _) ⟨W.heap.size, 0, none⟩ 1 1 [.int .i64 x] rfl rfl (cell_one_new _ _ _) (by simp [Value.oneCell']) (by omega) (by omega) (by have := hB.size; simp; omega) ?_; intro v' w1 hown' hgrow _; obtain ⟨g', cap', rfl⟩ := ownsRow_succ hown'; obtain ⟨hv1, hv2, hr2, hk2, hb2⟩ := hv.appended (by decide) hrow hB.size (Nat.le_refl _) hown' hgrow; have hc1 := hv1.cell; have hf1 := hv1.frozen)
    exact ⟨hk2.from _, hb2, ⟨_, hv2, by simpa using hr2, by simp⟩, hB.trans hb2⟩
  case done =>
    rintro D ys W hD rfl ⟨⟨v, hv, hrow, hnil⟩, hB⟩ hK
    have hc := hv.cell
    gi_wp2
    refine ⟨by simp, .inl ⟨_, _, rfl, run_takeDeferred hK, ?_⟩⟩
    exact ⟨_, results_tmp rfl _ _ _, v, rfl, ownsRow_putObj hrow _ hK rfl, hnil, hB.trans (belowK_b (w := w) (Nat.le_refl _) W D _ _ (by simp at hD; omega) hK rfl rfl)⟩
  case stop =>
    rintro D c pre W _ _ h _
    exact h.elim
set_option maxHeartbeats 1000000 in
theorem collect_in (F : Fence) (n : Nat) (h2 : F.fn 15) (h3 : F.fn 23) (h5 : F.fn 17) (hro : F.round = none) (hn : 4 ≤ n) (Bs : Nat) (sv : Value) (zs : List Int) (hlen : zs.length ≤ maxLen) (hbytes : zs.length * 8 ≤ 140737488351232) (w : World) (hBs : Bs < w.heap.size) (hcs : w.cell? ⟨Bs, 0, none⟩ = some sv) (hI : Ints w.heap.size w sv zs) :
    CallsIn F n Try.prog 15 #[.func (.func 17) #[] #[.pointer (some ⟨Bs, 0, none⟩)]] w fun e W' => ∃ v, e = .returned v ∧ W'.ownsRow w.heap.size 25 1 v zs.length (zs.map (Value.int .i64)) ∧ (v = .slice none 0 0 ↔ zs = []) ∧ Below w.heap.size w W' := by
  have h1 : 1 ≤ n := by omega
  have hp3 := h3
  refine callsIn_of_wp Try.func15 rfl h2 ?_ hro
  simp only [Try.ntmps15, List.size_toArray, List.length_cons, List.length_nil, Nat.reduceAdd, Nat.reduceSub, Array.replicate_succ, Array.replicate_zero, List.push_toArray, List.append_toArray, List.nil_append, List.cons_append]
  gi_wp2_with (gi_at_call 23; refine (append_in F (n - 1) h3 h5 hro (by omega) Bs sv zs hlen hbytes _ hBs hcs hI).mono ?_; rintro e w' ⟨v, rfl, hrow, hnil, hb⟩)
  go_ret
  exact ⟨v, rfl, hrow, hnil, hb⟩
/-! sorted -/
theorem sortsIn (m : Nat) : AnyZI.SortsIn Try.prog sortedL_ren Fence.wide m :=
  ⟨fun blk off cap ss W hH hblk hsz => callsIn_wide.2 (AnyM.slices_Sort_int sortL blk off cap ss W hH hblk hsz),
   fun p cap W => callsIn_wide.2 (AnyM.slices_Sort_int_none sortL p cap W)⟩
set_option maxRecDepth 100000 in
set_option maxHeartbeats 2000000 in
theorem sorted_in (n : Nat) (hn : 6 ≤ n) (Bs : Nat) (sv : Value) (zs : List Int) (h0 : 0 < zs.length) (hlen : zs.length ≤ maxLen) (hbytes : zs.length * 8 ≤ 140737488351232) (w : World) (hBs : Bs < w.heap.size) (hcs : w.cell? ⟨Bs, 0, none⟩ = some sv) (hI : Ints w.heap.size w sv zs) :
    CallsIn Fence.wide n Try.prog 12 #[.func (.func 17) #[] #[.pointer (some ⟨Bs, 0, none⟩)]] w fun e W' => ∃ g cap, e = .returned (.slice (some ⟨g, 0, none⟩) zs.length cap) ∧ (∀ j, j < zs.length → W'.cell? ⟨g, j, none⟩ = some (.int .i64 ((srt zs)[j]?.getD 0))) ∧ Below w.heap.size w W' := by
  have h1 : 1 ≤ n := by omega
  have hf1 : Fence.wide.fn 12 := trivial
  have hf2 : Fence.wide.fn 15 := trivial
  have hf3 : Fence.wide.fn 16 := trivial
  refine callsIn_of_wp Try.func12 rfl trivial ?_ rfl
  simp only [Try.ntmps12, List.size_toArray, List.length_cons, List.length_nil, Nat.reduceAdd, Nat.reduceSub, Array.replicate_succ, Array.replicate_zero, List.push_toArray, List.append_toArray, List.nil_append, List.cons_append]
  gi_wp2_with (gi_at_call 15; refine (collect_in Fence.wide (n - 1) trivial trivial trivial rfl (by omega) Bs sv zs hlen hbytes _ hBs hcs hI).mono ?_; rintro e W ⟨v, rfl, hrow, hnil, hb⟩)
  rcases hrow.2 with ⟨rfl, hz⟩ | ⟨gb, cap, cur, rfl, hbase, hgb, r1, r2, r3, r4⟩
  · exfalso; omega
  · have hH : Holds encZ W gb 0 zs.toArray := holds_of_block_i hgb (by simpa using r4)
    have hgl : gb < W.heap.size := (Array.getElem?_eq_some_iff.1 hgb).1
    have hsz : zs.length < 4611686018427387904 := by omega
    have cS := (sortsIn (n - 1)).1 gb 0 cap zs W hH hgl hsz
    change CallsIn _ _ Try.prog 16 _ _ _ at cS
    gi_wp2_with (gi_at_call 16; refine cS.mono ?_; rintro e w' ⟨rfl, nn, os, rfl⟩)
    go_ret
    have hrow2 := ownsRow_sorted_i (n := nn) (os := os) (ss := zs) (ts := zs.mergeSort fun x y => decide (x ≤ y)) (by simp) hbase hgb r1 r2 r3
    refine ⟨gb, cap, rfl, fun j hj => ?_, hb.grown (grownBy_sorted_i _) hb.size (fun j hj => by cases hj; exact hbase)⟩
    have hc := hrow2.cellAt j (by simpa using hj)
    have hj2 : j < (srt zs).length := by rw [srt_len]; exact hj
    have e1 : (srt zs)[j]? = some (srt zs)[j] := List.getElem?_eq_getElem hj2
    rw [e1]
    unfold srt at e1 ⊢
    rw [hc]
    simp [encZ]
    exact e1
/-! the middle one -/
set_option maxRecDepth 100000 in
set_option maxHeartbeats 2000000 in
theorem middle_in (a : Option Addr) (len cap : Nat) (zs : List Int) (h0 : 0 < zs.length) (hlen : zs.length ≤ 1000) (w : World) (hI : Ints w.heap.size w (.slice a len cap) zs) :
    Calls Try.prog 6 #[.slice a len cap] w fun e W' => e = .returned (.tuple #[.int .i64 (mid zs), .int .i64 0]) ∧ Below w.heap.size w W' := by
  refine (callsIn_wide (n := 9)).1 ?_
  have h1 : 1 ≤ 9 := by omega
  have hf1 : Fence.wide.fn 6 := trivial
  have hf2 : Fence.wide.fn 13 := trivial
  have hf3 : Fence.wide.fn 12 := trivial
  have hb0 : Below w.heap.size w (w.alloc (.cells #[.slice a len cap] 24)) := (Below.refl _ w).alloc (Nat.le_refl _) _
  have bN := Boxed.new w 24 (.slice a len cap)
  have cV := values_in Fence.wide 8 trivial rfl a len cap w
  have hI2 : Ints (w.alloc (.cells #[.slice a len cap] 24)).heap.size (w.alloc (.cells #[.slice a len cap] 24)) (.slice a len cap) zs := by
    obtain ⟨b, off, cap, e, hb, hc⟩ := (hI.below hb0).ex
    exact ⟨b, off, cap, e, by simp; omega, hc⟩
  have cS := sorted_in 8 (by omega) w.heap.size (.slice a len cap) zs h0 (by simp only [maxLen]; omega) (by omega) (w.alloc (.cells #[.slice a len cap] 24)) (by simp) bN.cell hI2
  obtain ⟨b, off, cap', e, hb, hc⟩ := hI.ex
  obtain ⟨rfl, rfl, rfl⟩ : a = some ⟨b, off, none⟩ ∧ len = zs.length ∧ cap = cap' := by
    injection e with e1 e2 e3; exact ⟨e1, e2, e3⟩
  refine callsIn_of_wp Try.func6 rfl trivial ?_ rfl
  simp only [Try.ntmps6, List.size_toArray, List.length_cons, List.length_nil, Nat.reduceAdd, Nat.reduceSub, Array.replicate_succ, Array.replicate_zero, List.push_toArray, List.append_toArray, List.nil_append, List.cons_append]
  gi_wp2_with (first
    | (gi_at_call 13; refine cV.mono ?_; rintro e w' ⟨rfl, rfl⟩)
    | (gi_at_call 12; refine cS.mono ?_; rintro e w' ⟨g, cp, rfl, hcell, hbl⟩; have hcm : w'.cell? ⟨g, (zs.length - 1) / 2, none⟩ = some (.int .i64 (mid zs)) := hcell _ (by omega)))
  go_ret2
  exact ⟨rfl, hb0.trans (hbl.mono (by simp))⟩

end Go.Proofs.Ytkhkmicbjnkicaa
