/-
  Contracts of functions, and plain facts about them, that a claim of this seat uses.
-/
import Derived.Test.YtlhlegjndembdaaSx
import Derived.Test.YtlhlegjndembdaaProg
namespace Go.Proofs.Ytlhlegjndembdaa
open Go.Sx
set_option linter.unusedVariables false
set_option linter.unusedSimpArgs false
set_option maxRecDepth 100000

/-! numbers that came: turn, match, vector, In. -/
theorem mixed : Try.prog.follows .mixedOrders = true := by kernel_rfl
noncomputable abbrev C0 : Cx Try.prog := cx0
def C0n (n : Nat) : Cx Try.prog := { ps := [], es := [], is := [], n0 := n, loops := fun _ => none, cuts := fun _ => none }
theorem fn19 : FnOf Try.prog 19 Try.f19 := ⟨Try.func19, rfl, rfl, mixed⟩
theorem fn35 : FnOf Try.prog 35 Try.f35 := ⟨Try.func35, rfl, rfl, mixed⟩
theorem fn36 : FnOf Try.prog 36 Try.f36 := ⟨Try.func36, rfl, rfl, mixed⟩
theorem fn37 : FnOf Try.prog 37 Try.f37 := ⟨Try.func37, rfl, rfl, mixed⟩
theorem fn42 : FnOf Try.prog 42 Try.f42 := ⟨Try.func42, rfl, rfl, mixed⟩
theorem fn17 : FnOf Try.prog 17 Try.f17 := ⟨Try.func17, rfl, rfl, mixed⟩

structure Sq where
  way : Int
  len : Int
  reset : Int
  any : Bool
  last : Int
  had : Int
  wen : Int
  k0 : Int
  k1 : Int
  k2 : Int
  k3 : Int
  resets : Int
  lost : Int

def i_ (n : Int) : SA := .v (.int .i64 n)
def Sq.cells (s : Sq) : List SA := [i_ s.way, i_ s.len, i_ s.reset, .v (.bool s.any), i_ s.last, .v (.int .u64 s.had), i_ s.wen, i_ s.k0, i_ s.k1, i_ s.k2, i_ s.k3, i_ s.resets, i_ s.lost]
def rdSq : List SA → Option Sq
  | [.v (.int .i64 way), .v (.int .i64 len), .v (.int .i64 reset), any, .v (.int .i64 last), .v (.int .u64 had), .v (.int .i64 wen), .v (.int .i64 k0), .v (.int .i64 k1), .v (.int .i64 k2), .v (.int .i64 k3), .v (.int .i64 resets), .v (.int .i64 lost)] =>
    (match boolOf any with | some b => some ⟨way, len, reset, b, last, had, wen, k0, k1, k2, k3, resets, lost⟩ | none => none)
  | _ => none

theorem rdSq_ok {cs : List SA} {s : Sq} (h : rdSq cs = some s) (ρ : List Nat) : ∃ l, subCon ((Con.flat s.cells).ren ρ) (.flat cs) = some l ∧ Holds l := by
  unfold rdSq at h
  split at h
  · rename_i any _ _ _ _ _ _ _ _ _
    split at h
    · rename_i b hb
      cases h
      show ∃ l, preSAs _ _ = some l ∧ Holds l
      repeat (first | refine pre_cons (eqSA_int _ _) ?_ | refine pre_cons (eqSA_bool hb) ?_ | exact pre_nil _)
    · cases h
  · cases h

/-! ### What the methods do -/

def aheadM (a b : Int) : Int := let d := bits .and .i64 (IntKind.i64.wrap (a - b)) 65535; if 32768 ≤ d then IntKind.i64.wrap (d - 65536) else d
theorem ahead_runs (a b : Int) : Runs C0 Try.f42 [int_ .i64 a, int_ .i64 b] [] fun v _ => isRes (int_ .i64 (aheadM a b)) v := by
  refine ⟨fun h => ⟨?_, trivial⟩, fun h => ⟨?_, trivial⟩⟩ <;> simp [aheadM, h]
def in2 : List SV → Option (Int × Int)
  | [.one (.a (.v (.int .i64 a))), .one (.a (.v (.int .i64 b)))] => some (a, b)
  | _ => none
theorem in2_ok (l : List SV) (x : Int × Int) (h : in2 l = some x) : l = [int_ .i64 x.1, int_ .i64 x.2] := by
  unfold in2 at h; split at h <;> cases h; rfl
noncomputable def aheadS : PSpec Try.prog := pureSpec fn42 C0 rfl (Int × Int) in2 (fun x => [int_ .i64 x.1, int_ .i64 x.2]) (fun _ => none) (fun (a, b) => int_ .i64 (aheadM a b)) in2_ok (fun _ => rfl) (fun _ => rfl) (fun x _ => ahead_runs x.1 x.2)

def Sq.anew (s : Sq) : Sq := { s with any := true, had := 0, resets := IntKind.i64.wrap (s.resets + 1) }
def Sq.turn (s : Sq) (now : Int) : Sq :=
  if s.any = false ∧ s.wen ≤ now ∧ IntKind.u64.wrap s.reset ≤ IntKind.u64.wrap (IntKind.u64.wrap now - IntKind.u64.wrap s.wen) then s.anew else s
def Sq.match_ (s : Sq) (q : Int) : Int × Sq :=
  if s.way = 1 then if s.any = false ∧ s.last = q then (1, s) else (0, { s with last := q }) else (0, s)

def rd0 (cs : List SA) (ar : List SV) : Option Sq := match ar with | [] => rdSq cs | _ => none
def rd1 (cs : List SA) (ar : List SV) : Option (Sq × Int) := match ar with | [.one (.a (.v (.int .i64 n)))] => (rdSq cs).map (·, n) | _ => none
theorem rd1_ok (cs : List SA) (ar : List SV) (x : Sq × Int) (h : rd1 cs ar = some x) : ar = [int_ .i64 x.2] ∧ ∀ ρ, [int_ .i64 x.2].map (SV.ren ρ) = [int_ .i64 x.2] ∧ ∃ l, subCon ((Con.flat x.1.cells).ren ρ) (.flat cs) = some l ∧ Holds l := by
  unfold rd1 at h
  split at h
  · obtain ⟨s, hs, rfl⟩ := Option.map_eq_some_iff.1 h
    exact ⟨rfl, fun ρ => ⟨rfl, rdSq_ok hs ρ⟩⟩
  · cases h
noncomputable def cxT : Cx Try.prog := { ps := [], es := [], is := [inl fn19 C0], n0 := 1, loops := fun _ => none, cuts := fun _ => none }
theorem turn_runs (s : Sq) (n : Int) : Runs cxT Try.f35 [.one (.a (.ptr 0 0)), int_ .i64 n] [some ⟨true, .flat s.cells⟩] fun v m' => altOne [some ⟨true, .flat s.cells⟩] [0] v m' (.tup []) [some ⟨true, .flat (s.turn n).cells⟩] := by
  repeat' (first | with_reducible exact trivial | with_reducible exact rfl | with_reducible exact Nat.le_refl _ | with_reducible exact (fun _ _ => rfl) | ((conv => whnf); first | (refine fun _ => ?_) | refine ⟨?_, ?_⟩ | exact trivial | exact Nat.le_refl _ | exact lex_q (by kernel_rfl) | exact lex_t (by kernel_rfl) | exact lex_h (by kernel_rfl) | fail))
  all_goals simp_all [Sq.turn, Sq.anew]
  all_goals (rw [if_neg (by omega)]; try simp_all)
noncomputable def turnS : ESpec Try.prog := objSpec fn35 (Sq × Int) (fun _ => cxT) (fun _ => rfl) rd1 (fun x => x.1.cells) (fun x => [int_ .i64 x.2]) (fun _ => none) (fun _ => .tup []) (fun x => (x.1.turn x.2).cells) rd1_ok (fun x _ => turn_runs x.1 x.2)
theorem match_runs (s : Sq) (q : Int) : Runs (C0n 1) Try.f36 [.one (.a (.ptr 0 0)), int_ .i64 q] [some ⟨true, .flat s.cells⟩] fun v m' => altOne [some ⟨true, .flat s.cells⟩] [0] v m' (int_ .i64 (s.match_ q).1) [some ⟨true, .flat (s.match_ q).2.cells⟩] := by
  repeat' (first | with_reducible exact trivial | with_reducible exact rfl | with_reducible exact Nat.le_refl _ | with_reducible exact (fun _ _ => rfl) | ((conv => whnf); first | (refine fun _ => ?_) | refine ⟨?_, ?_⟩ | exact trivial | exact Nat.le_refl _ | exact lex_q (by kernel_rfl) | exact lex_t (by kernel_rfl) | exact lex_h (by kernel_rfl) | fail))
  all_goals simp_all [Sq.match_]
noncomputable def matchS : ESpec Try.prog := objSpec fn36 (Sq × Int) (fun _ => C0n 1) (fun _ => rfl) rd1 (fun x => x.1.cells) (fun x => [int_ .i64 x.2]) (fun _ => none) (fun x => int_ .i64 (x.1.match_ x.2).1) (fun x => (x.1.match_ x.2).2.cells) rd1_ok (fun x _ => match_runs x.1 x.2)

/-! ### The window -/

/-- one number falls out -/
def outW (len : Int) (x : Int × Int) : Int × Int :=
  (IntKind.u64.wrap (x.1 * 2 ^ min (Int.toNat 1) IntKind.u64.bits), if bits .and .u64 (x.1.fdiv (2 ^ min (IntKind.i64.wrap (len - 1)).toNat IntKind.u64.bits)) 1 = 0 then IntKind.i64.wrap (x.2 + 1) else x.2)
def outs (len : Int) : Nat → Int × Int → Int × Int
  | 0, x => x
  | n + 1, x => outW len (outs len n x)
def Sq.vector (s : Sq) (q : Int) : Int × Sq :=
  if s.any = true then (0, { s with last := q, had := 1 })
  else
    let d := aheadM q s.last
    if s.len ≤ d ∨ d ≤ IntKind.i64.wrap (0 - s.len) then (2, s)
    else if d ≤ 0 then
      let bit := IntKind.u64.wrap (1 * 2 ^ min (IntKind.i64.wrap (0 - d)).toNat IntKind.u64.bits)
      if bits .and .u64 s.had bit = 0 then (3, { s with had := bits .or .u64 s.had bit }) else (1, s)
    else
      let o := outs s.len d.toNat (s.had, s.lost)
      (0, { s with had := bits .or .u64 o.1 1, lost := o.2, last := q })
abbrev laV (s : Sq) (q : Int) : LA where
  ι := Nat
  inv := fun i => i ≤ (aheadM q s.last).toNat
  T := fun i => ⟨105, [(0, .one (.a (.ptr 0 0))), (1, int_ .i64 q), (63, int_ .i64 (aheadM q s.last)), (64, int_ .i64 i)], [some ⟨true, .flat { s with had := (outs s.len i (s.had, s.lost)).1, lost := (outs s.len i (s.had, s.lost)).2 }.cells⟩]⟩
  μ := fun i => (aheadM q s.last).toNat - i
  ren := fun _ => [0]
noncomputable def cxV (s : Sq) (q : Int) : Cx Try.prog := { ps := [aheadS], es := [], is := [], n0 := 1, loops := fun i => match i with | 14 => some (.inv (laV s q)) | _ => none, cuts := fun _ => none }
theorem ahead_bounds (a b : Int) : -32768 ≤ aheadM a b ∧ aheadM a b ≤ 32767 := by
  have h : bits .and .i64 (IntKind.i64.wrap (a - b)) 65535 = IntKind.i64.wrap (a - b) % 65536 := and_mask _ 16 (by decide)
  unfold aheadM
  simp only [h]
  split
  · rw [w64 (by omega)]; omega
  · omega
attribute [local irreducible] enter
theorem vector_runs (s : Sq) (q : Int) (hl : 1 ≤ s.len ∧ s.len ≤ 9223372036854775807) : Runs (cxV s q) Try.f37 [.one (.a (.ptr 0 0)), int_ .i64 q] [some ⟨true, .flat s.cells⟩] fun v m' => altOne [some ⟨true, .flat s.cells⟩] [0] v m' (int_ .i64 (s.vector q).1) [some ⟨true, .flat (s.vector q).2.cells⟩] := by
  have hb := ahead_bounds q s.last
  have e1 : IntKind.i64.wrap (0 - aheadM q s.last) = 0 - aheadM q s.last := w64 (by omega)
  have e2 : IntKind.i64.wrap (s.len - 1) = s.len - 1 := w64 (by omega)
  repeat' (first | with_reducible exact trivial | with_reducible exact rfl | with_reducible exact Nat.le_refl _ | with_reducible exact (fun _ _ => rfl) | ((conv => whnf); first | (refine fun (x : Nat) => ?_) | (refine fun _ => ?_) | refine ⟨?_, ?_⟩ | exact trivial | exact Nat.le_refl _ | exact lex_q (by kernel_rfl) | exact lex_t (by kernel_rfl) | exact lex_h (by kernel_rfl) | fail))
  all_goals (try (have hi := (by assumption : (laV s q).inv x); dsimp only [laV] at hi))
  any_goals first
    | (refine enter_mk (la := laV s q) 0 ?_ (by (repeat' (first | ((conv => whnf); first | refine ⟨?_, ?_⟩ | exact trivial | fail) | (dsimp only; done) | ((try dsimp only); first | with_reducible exact rfl | exact Nat.le_refl _ | with_reducible exact (fun _ _ => rfl)))); first | ((all_goals ((try dsimp only [laV] at *); (all_goals (try simp (disch := omega) only [w64', wu64', tdiv_pos, tmod_pos, Int.toNat_natCast, Nat.zero_add] at *)); (all_goals ((first | rfl | omega))))); done) | fail))
    | (refine enter_mk (la := laV s q) (x + 1 : Nat) (show x + 1 ≤ (aheadM q s.last).toNat by omega) ?_
       repeat' (first | exact trivial | refine ⟨?_, ?_⟩)
       all_goals first
       | rfl
       | exact if_pos (by assumption)
       | exact if_neg (by assumption)
       | (show ((x + 1 : Nat) : Int) = IntKind.i64.wrap (x + 1)
          rw [w64' (by omega) (by omega)]; omega)
       | (show (aheadM q s.last).toNat - (x + 1) < (aheadM q s.last).toNat - x
          omega))
    | fail
  all_goals (try dsimp only [laV] at *)
  any_goals (first | exact Nat.zero_le _ | (rw [e1]; omega) | (rw [e2]; omega) | omega)
  all_goals clear e1 e2
  all_goals (try (rename_i h; have h := Decidable.not_not.1 h))
  all_goals first
    | (simp only [Sq.vector, *, true_or, or_true, or_self, if_true, if_false, Bool.false_eq_true]; done)
    | (obtain rfl : x = (aheadM q s.last).toNat := by omega
       clear hb
       simp only [Sq.vector, *, true_or, or_true, or_self, if_true, if_false, Bool.false_eq_true]; done)
noncomputable def vectorS : ESpec Try.prog := objSpec fn37 (Sq × Int) (fun x => cxV x.1 x.2) (fun _ => rfl) rd1 (fun x => x.1.cells) (fun x => [int_ .i64 x.2]) (fun x => some (1 ≤ x.1.len ∧ x.1.len ≤ 9223372036854775807)) (fun x => int_ .i64 (x.1.vector x.2).1) (fun x => (x.1.vector x.2).2.cells) rd1_ok (fun x h => vector_runs x.1 x.2 h)

/-! ### In -/

def Sq.mid (s : Sq) (now q : Int) : Int × Sq := if ((s.turn now).match_ q).2.way = 0 then ((s.turn now).match_ q).2.vector q else (s.turn now).match_ q
def Sq.bump (s : Sq) (w : Int) : Sq := { s with k0 := if w = 0 then IntKind.i64.wrap (s.k0 + 1) else s.k0, k1 := if w = 1 then IntKind.i64.wrap (s.k1 + 1) else s.k1, k2 := if w = 2 then IntKind.i64.wrap (s.k2 + 1) else s.k2, k3 := if w = 3 then IntKind.i64.wrap (s.k3 + 1) else s.k3 }
def Sq.fin (s : Sq) (w now : Int) : Sq := if w = 0 ∨ w = 3 then { s with wen := now, any := false } else s
def Sq.in_ (s : Sq) (now q : Int) : Int × Int × Sq :=
  if q < 0 ∨ 65536 ≤ q then (2, 1, s) else ((s.mid now q).1, 0, ((s.mid now q).2.bump (s.mid now q).1).fin (s.mid now q).1 now)
theorem turn_len (s : Sq) (now : Int) : (s.turn now).len = s.len ∧ (s.turn now).way = s.way ∧ (s.turn now).reset = s.reset := by unfold Sq.turn Sq.anew; split <;> exact ⟨rfl, rfl, rfl⟩
theorem match_len (s : Sq) (q : Int) : (s.match_ q).2.len = s.len ∧ (s.match_ q).2.way = s.way ∧ (s.match_ q).2.reset = s.reset ∧ 0 ≤ (s.match_ q).1 ∧ (s.match_ q).1 < 4 := by
  unfold Sq.match_; repeat' split
  · exact ⟨rfl, rfl, rfl, show (0 : Int) ≤ 1 by decide, show (1 : Int) < 4 by decide⟩
  · exact ⟨rfl, rfl, rfl, show (0 : Int) ≤ 0 by decide, show (0 : Int) < 4 by decide⟩
  · exact ⟨rfl, rfl, rfl, show (0 : Int) ≤ 0 by decide, show (0 : Int) < 4 by decide⟩
theorem vector_len (s : Sq) (q : Int) : (s.vector q).2.len = s.len ∧ (s.vector q).2.way = s.way ∧ (s.vector q).2.reset = s.reset ∧ 0 ≤ (s.vector q).1 ∧ (s.vector q).1 < 4 := by
  unfold Sq.vector
  split
  · exact ⟨rfl, rfl, rfl, show (0 : Int) ≤ 0 by decide, show (0 : Int) < 4 by decide⟩
  · simp only
    split
    · exact ⟨rfl, rfl, rfl, show (0 : Int) ≤ 2 by decide, show (2 : Int) < 4 by decide⟩
    · split
      · split
        · exact ⟨rfl, rfl, rfl, show (0 : Int) ≤ 3 by decide, show (3 : Int) < 4 by decide⟩
        · exact ⟨rfl, rfl, rfl, show (0 : Int) ≤ 1 by decide, show (1 : Int) < 4 by decide⟩
      · exact ⟨rfl, rfl, rfl, show (0 : Int) ≤ 0 by decide, show (0 : Int) < 4 by decide⟩
noncomputable def cxI : Cx Try.prog := { ps := [], es := [turnS, matchS, vectorS], is := [], n0 := 1, loops := fun _ => none, cuts := fun _ => none }

end Go.Proofs.Ytlhlegjndembdaa
