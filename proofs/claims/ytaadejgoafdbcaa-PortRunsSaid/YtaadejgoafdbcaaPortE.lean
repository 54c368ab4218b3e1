/-
  Contracts of functions, and plain facts about them, that a claim of this seat uses.
-/
import Derived.Test.YtaadejgoafdbcaaSx
import Derived.Test.YtaadejgoafdbcaaPortD
import Derived.Test.YtaadejgoafdbcaaProg
namespace Go.Proofs.Ytaadejgoafdbcaa
open Go.Sx
set_option linter.unusedVariables false
set_option linter.unusedSimpArgs false
set_option maxRecDepth 100000

/-! the port's Change. -/
def chOK (l : GL) (now : Int) : Prop := chk l = 0 ∧ nxOK now
instance (l : GL) (now : Int) : Decidable (chOK l now) := by unfold chOK nxOK; exact inferInstance
def chE (l : GL) : Int := if chk l ≠ 0 then chk l else 1
def chF (l : GL) (now : Int) : Int := turnV l (if now < l.base then l.base else now)
def chP (l0 : GL) (l : GL) (now : Int) (q : Ln) (y : CL) : Pt := ⟨l0, cp l y, chF l now, true, q⟩
def chAl (p : Pt) (l0 l : GL) (now : Int) : List OAlt := [.cond (¬ chOK l now) (int_ .i64 (chE l)) (ptP p), .fam CL (fun y => chOK l now ∧ CS l.len l y) (fun _ => int_ .i64 0) (fun y => ptP (chP l0 l now p.q y))]
noncomputable def cxCg : Cx Try.prog := { ps := [chkS, turnS], es := [atS], is := [], n0 := 1, loops := fun _ => none, cuts := fun _ => none }
noncomputable def cxCh : Cx Try.prog := { ps := [], es := [], is := [inl fn34 cxCg], n0 := 1, loops := fun _ => none, cuts := fun _ => none, loud := fun i => Nat.beq i 3 }
theorem o_c1 {K : ObK} {ρ : List Nat} {v : SV} {m : Mem} {p : Prop} {v2 : SV} {x2 : Pay} {b : OAlt} (hd : K.Hid) (h1 : p ∧ K.inv x2 hd) (h2 : match idB 1 0 ρ, Nat.ble (K.mem x2 hd).length ρ.length, nodupB ρ, v2.ok 0, app2 (eqSV v2 v) (subMem ρ m 0 (K.mem x2 hd)) with
    | true, true, true, true, some l => allP l True
    | _, _, _, _, _ => False) : anyO K ρ v m [.cond p v2 x2, b] := .inl ⟨h1.1, hd, h1.2, h2⟩
theorem o_f2 {K : ObK} {ρ : List Nat} {v : SV} {m : Mem} {α : Type} {p : α → Prop} {v2 : α → SV} {x2 : α → Pay} {a : OAlt} (y : α) (hd : K.Hid) (h1 : p y ∧ K.inv (x2 y) hd) (h2 : match idB 1 0 ρ, Nat.ble (K.mem (x2 y) hd).length ρ.length, nodupB ρ, (v2 y).ok 0, app2 (eqSV (v2 y) v) (subMem ρ m 0 (K.mem (x2 y) hd)) with
    | true, true, true, true, some l => allP l True
    | _, _, _, _, _ => False) : anyO K ρ v m [a, .fam α p v2 x2] := .inr ⟨y, h1.1, hd, h1.2, h2⟩
theorem chF_bd {l : GL} {now : Int} (h : chk l = 0) (hn : nxOK now) : 0 ≤ chF l now ∧ chF l now ≤ 4398046511104 := by
  have ok := chk_ok h
  obtain ⟨o1, o2, o3, o4⟩ : _ ∧ _ ∧ _ ∧ _ := ⟨ok.c1, ok.c2, ok.b1, ok.b2⟩
  unfold nxOK at hn
  unfold chF
  have key : ∀ b : Int, 0 ≤ b → b ≤ 1099511627776 → 0 ≤ turnV l b ∧ turnV l b ≤ 4398046511104 := by
    intro b h1 h2
    unfold turnV
    have e1 := Int.emod_nonneg (b - l.base) (show l.cyc ≠ 0 by omega)
    have e2 := Int.emod_lt_of_pos (b - l.base) (show 0 < l.cyc by omega)
    have e3 : phV l b = (b - l.base) % l.cyc := rfl
    rw [if_pos ⟨h, by unfold inR; omega⟩]
    split <;> omega
  split
  · exact key _ (by omega) (by omega)
  · exact key _ (by omega) (by omega)
theorem ch_end {l0 l : GL} {now : Int} {q : Ln} {y : CL} (h9 : chk l = 0) (h8 : nxOK now) (hl : Gw l) (hg : Gw l0) (hc0 : chk l0 = 0) (hc : CS l.len l y) : (chOK l now ∧ CS l.len l y) ∧ ptK.inv (ptP (chP l0 l now q y)) () :=
  ⟨⟨⟨h9, h8⟩, hc⟩, ⟨hg, hc0, (show Gw (cp l y) from cp_gw hc hl), fun _ => (show chk (cp l y) = 0 from (cp_chk hc).trans h9), chF_bd h9 h8⟩⟩
section
attribute [local irreducible] anyO Gw enter chk turnV HeldOK swB
set_option maxHeartbeats 8000000 in
theorem ch_runs0 (p : Pt) (l : GL) (now : Int) (hw : ¬ swB p.g now) (hl : Gw l) (h : Unit) (hi : PtInv p) : Runs cxCh Try.f17 (.one (.a (.ptr 0 0)) :: mkArgs 4 [Lens.gl.arg l, .a (.i .i64 now)]) (ptMem p ++ mkMem [Lens.gl.arg l, .a (.i .i64 now)]) fun v m => ghosted (fun _ _ => []) v m fun v m => anyO ptK (ptRen 0 m) v m (chAl p p.l l now) := by
  have hg := hi.gs
  obtain ⟨lb, lcy, l1, l2, l3, l4⟩ := hl.out
  repeat' (first | with_reducible exact trivial | with_reducible exact rfl | with_reducible exact Nat.le_refl _ | with_reducible exact (fun _ _ => rfl) | ((conv => whnf); first | (refine fun (x : CL) => ?_) | (refine fun (y : Nat) => ?_) | (exact fun h => absurd h (by decide)) | (intro h9; (have h8 := of_decide_eq_true (p := type_of% h9) (by decide)); clear h8 h9) | (refine fun _ => ?_) | refine ⟨?_, ?_⟩ | exact trivial | exact Nat.le_refl _ | exact lex_q (by kernel_rfl) | exact lex_t (by kernel_rfl) | exact lex_h (by kernel_rfl) | fail))
  all_goals (try exact hg)
  all_goals (try exact hl)
  all_goals (try exact absurd (And.left (by assumption)) hw)
  all_goals (try exact absurd hw (And.left (by assumption)))
  all_goals (try omega)
  all_goals (try (have h9 : chk l = 0 := Decidable.not_not.1 (by assumption); have h8 := (chk_ok h9).n2; omega))
  all_goals first
    | (have h9 : ¬ chk l = 0 := (by assumption)
       (conv => whnf)
       refine o_c1 (K := ptK) () ?_ (by (repeat' (first | ((conv => whnf); first | refine ⟨?_, ?_⟩ | exact trivial | fail) | (dsimp only; done) | ((try dsimp only); first | with_reducible exact rfl | exact Nat.le_refl _ | with_reducible exact (fun _ _ => rfl)))); all_goals ((first | rfl | exact fun _ _ => rfl | (unfold chE; rw [if_pos h9]; rfl))))
       exact ⟨fun hh => h9 hh.1, hi⟩)
    | (have h9 : chk l = 0 := Decidable.not_not.1 (by assumption)
       have h8 : ¬ nxOK now := (fun hh => by unfold nxOK at hh; omega)
       (conv => whnf)
       refine o_c1 (K := ptK) () ?_ (by (repeat' (first | ((conv => whnf); first | refine ⟨?_, ?_⟩ | exact trivial | fail) | (dsimp only; done) | ((try dsimp only); first | with_reducible exact rfl | exact Nat.le_refl _ | with_reducible exact (fun _ _ => rfl)))); all_goals ((first | rfl | exact fun _ _ => rfl | (unfold chE; rw [if_neg (fun hh => hh h9)]))))
       exact ⟨fun hh => h8 hh.2, hi⟩)
    | (have h9 : chk l = 0 := Decidable.not_not.1 (by assumption)
       have h8 : nxOK now := (by unfold nxOK; omega)
       (conv => whnf)
       refine o_f2 (K := ptK) (α := CL) ⟨_, _, _⟩ () ?_ (by (repeat' (first | ((conv => whnf); first | refine ⟨?_, ?_⟩ | exact trivial | fail) | (dsimp only; done) | ((try dsimp only); first | with_reducible exact rfl | exact Nat.le_refl _ | with_reducible exact (fun _ _ => rfl)))); all_goals ((first | rfl | exact fun _ _ => rfl)))
       exact ch_end h9 h8 hl (hi.lg) (hi.lc) ⟨(by assumption), (by omega), fun r hr => ⟨app_at hr, app_at hr⟩⟩)
    | fail
set_option maxHeartbeats 8000000 in
theorem ch_runs1 (p : Pt) (l : GL) (now : Int) (hw : swB p.g now) (hl : Gw l) (h : Unit) (hi : PtInv p) : Runs cxCh Try.f17 (.one (.a (.ptr 0 0)) :: mkArgs 4 [Lens.gl.arg l, .a (.i .i64 now)]) (ptMem p ++ mkMem [Lens.gl.arg l, .a (.i .i64 now)]) fun v m => ghosted (fun _ _ => []) v m fun v m => anyO ptK (ptRen 0 m) v m (chAl p p.a l now) := by
  have hg := hi.gs
  obtain ⟨lb, lcy, l1, l2, l3, l4⟩ := hl.out
  repeat' (first | with_reducible exact trivial | with_reducible exact rfl | with_reducible exact Nat.le_refl _ | with_reducible exact (fun _ _ => rfl) | ((conv => whnf); first | (refine fun (x : CL) => ?_) | (refine fun (y : Nat) => ?_) | (exact fun h => absurd h (by decide)) | (intro h9; (have h8 := of_decide_eq_true (p := type_of% h9) (by decide)); clear h8 h9) | (refine fun _ => ?_) | refine ⟨?_, ?_⟩ | exact trivial | exact Nat.le_refl _ | exact lex_q (by kernel_rfl) | exact lex_t (by kernel_rfl) | exact lex_h (by kernel_rfl) | fail))
  all_goals (try exact hg)
  all_goals (try exact hl)
  all_goals (try exact absurd (And.left (by assumption)) hw)
  all_goals (try exact absurd hw (And.left (by assumption)))
  all_goals (try omega)
  all_goals (try (have h9 : chk l = 0 := Decidable.not_not.1 (by assumption); have h8 := (chk_ok h9).n2; omega))
  all_goals first
    | (have h9 : ¬ chk l = 0 := (by assumption)
       (conv => whnf)
       refine o_c1 (K := ptK) () ?_ (by (repeat' (first | ((conv => whnf); first | refine ⟨?_, ?_⟩ | exact trivial | fail) | (dsimp only; done) | ((try dsimp only); first | with_reducible exact rfl | exact Nat.le_refl _ | with_reducible exact (fun _ _ => rfl)))); all_goals ((first | rfl | exact fun _ _ => rfl | (unfold chE; rw [if_pos h9]; rfl))))
       exact ⟨fun hh => h9 hh.1, hi⟩)
    | (have h9 : chk l = 0 := Decidable.not_not.1 (by assumption)
       have h8 : ¬ nxOK now := (fun hh => by unfold nxOK at hh; omega)
       (conv => whnf)
       refine o_c1 (K := ptK) () ?_ (by (repeat' (first | ((conv => whnf); first | refine ⟨?_, ?_⟩ | exact trivial | fail) | (dsimp only; done) | ((try dsimp only); first | with_reducible exact rfl | exact Nat.le_refl _ | with_reducible exact (fun _ _ => rfl)))); all_goals ((first | rfl | exact fun _ _ => rfl | (unfold chE; rw [if_neg (fun hh => hh h9)]))))
       exact ⟨fun hh => h8 hh.2, hi⟩)
    | (have h9 : chk l = 0 := Decidable.not_not.1 (by assumption)
       have h8 : nxOK now := (by unfold nxOK; omega)
       (conv => whnf)
       refine o_f2 (K := ptK) (α := CL) ⟨_, _, _⟩ () ?_ (by (repeat' (first | ((conv => whnf); first | refine ⟨?_, ?_⟩ | exact trivial | fail) | (dsimp only; done) | ((try dsimp only); first | with_reducible exact rfl | exact Nat.le_refl _ | with_reducible exact (fun _ _ => rfl)))); all_goals ((first | rfl | exact fun _ _ => rfl)))
       exact ch_end h9 h8 hl (hi.ag) (hi.ac (by unfold swB at hw; exact hw.1)) ⟨(by assumption), (by omega), fun r hr => ⟨app_at hr, app_at hr⟩⟩)
    | fail
end
theorem ch_runs (p : Pt) (x : GL × Int) (hl : Gw x.1) (h : Unit) (hi : PtInv p) : Runs cxCh Try.f17 (.one (.a (.ptr 0 0)) :: mkArgs 4 [Lens.gl.arg x.1, .a (.i .i64 x.2)]) (ptMem p ++ mkMem [Lens.gl.arg x.1, .a (.i .i64 x.2)]) fun v m => ghosted (fun _ _ => []) v m fun v m => anyO ptK (ptRen 0 m) v m (chAl p (atG p.g x.2).l x.1 x.2) := by
  by_cases hs : swB p.g x.2
  · rw [show (atG p.g x.2).l = p.a by rw [atG_sw hs]; rfl]; exact ch_runs1 p x.1 x.2 hs hl h hi
  · rw [show (atG p.g x.2).l = p.l by rw [atG_no hs]; rfl]; exact ch_runs0 p x.1 x.2 hs hl h hi
noncomputable def chS : ESpec Try.prog := obS fn17 69 4 ptK (.s2 Lens.gl (.int .i64)) ptR ptP ptR_ok (fun _ _ => rfl) (fun _ _ => rfl) (fun _ _ _ => cxCh) (fun _ x => Gw x.1) (fun p x => chAl p (atG p.g x.2).l x.1 x.2) (fun _ _ => []) (fun _ m => ptRen 0 m) (fun _ _ _ => rfl) (fun p x hl h hi => ch_runs p x hl h hi)

end Go.Proofs.Ytaadejgoafdbcaa
