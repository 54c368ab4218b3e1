/-
  For every frame and every number the law EtherWrites answers true and leaves all memory as it was.
-/
import Derived.Test.YtiaadplhpkggeaaSx
import Derived.Test.YtiaadplhpkggeaaFcsNum
import Derived.Test.YtiaadplhpkggeaaFcsBits
import Derived.Test.YtiaadplhpkggeaaFcsA
import Derived.Test.YtiaadplhpkggeaaFcsB
import Derived.Test.YtiaadplhpkggeaaFcsIn
import Derived.Test.YtiaadplhpkggeaaFcsC
import Derived.Test.YtiaadplhpkggeaaFcsJ
import Derived.Test.YtiaadplhpkggeaaFcsH
import Derived.Test.YtiaadplhpkggeaaEthNum
import Derived.Test.YtiaadplhpkggeaaEthA
import Derived.Test.YtiaadplhpkggeaaEthB
import Derived.Test.YtiaadplhpkggeaaEthD
import Derived.Test.YtiaadplhpkggeaaEthM
import Derived.Test.YtiaadplhpkggeaaEthR
import Derived.Test.YtiaadplhpkggeaaEthS
import Derived.Test.YtiaadplhpkggeaaRows
import Derived.WalkKit
import Derived.ProofKit
import Derived.OpenShut
namespace Go.Proofs.Ytiaadplhpkggeaa.etherWrites
open Go.ChangeShapes Go.WideShapes Go.ChangeAt Go.RowKit Go.Sx
set_option linter.unusedVariables false
set_option linter.unusedSimpArgs false
set_option maxRecDepth 100000

theorem fn33 : FnOf Try.prog 33 Try.f33 := ⟨Try.func33, rfl, rfl, mixed⟩
attribute [local irreducible] enter anyAlt Bw
noncomputable def cxPl : Cx Try.prog := { ps := [], es := [], is := [], n0 := 1, loops := fun _ => none, cuts := fun _ => none }
theorem pl_runs (f : Fr) (_ : obp (some True)) : Runs cxPl Try.f33 [F1 0 f] [roB f.data] fun v _ => isRes (F1 0 f) v := by
  repeat' (first | with_reducible exact trivial | with_reducible exact rfl | with_reducible exact Nat.le_refl _ | with_reducible exact (fun _ _ => rfl) | ((conv => whnf); first | (refine fun _ => ?_) | refine ⟨?_, ?_⟩ | exact trivial | exact Nat.le_refl _ | exact lex_q (by kernel_rfl) | exact lex_t (by kernel_rfl) | exact lex_h (by kernel_rfl) | fail))
noncomputable def plS : PSpec Try.prog := readN fn33 sf (fun _ => cxPl) (fun _ => some True) (fun f => F1 0 f) (fun _ => rfl) (fun _ => rfl) (fun _ => rfl) pl_runs
/-- the frame with other data, in region 1 -/
def frJ (f : Fr) : Option Reg := some ⟨true, .flat (frCells f (.slc 2 1 0 f.data.len f.data.cap))⟩
def wd (f : Fr) (d : IS) : Fr := ⟨f.a0, f.a1, f.a2, f.a3, f.a4, f.a5, f.b0, f.b1, f.b2, f.b3, f.b4, f.b5, f.tg, f.vid, f.prio, f.drop, f.many, f.seq, f.typ, d⟩
theorem wd_lit (f : Fr) (d : IS) : (⟨f.a0, f.a1, f.a2, f.a3, f.a4, f.a5, f.b0, f.b1, f.b2, f.b3, f.b4, f.b5, f.tg, f.vid, f.prio, f.drop, f.many, f.seq, f.typ, d⟩ : Fr) = wd f d := rfl
theorem chk_wd (f : Fr) {d d' : IS} (h : d.len = d'.len) : chk (wd f d) = chk (wd f d') := by
  unfold chk BadN BadT siz wd
  dsimp only
  rw [h]
theorem wd_wd (f : Fr) (d d' : IS) : wd (wd f d) d' = wd f d' := rfl
theorem wd_data (f : Fr) (d : IS) : (wd f d).data = d := rfl
theorem wd_frD (g : Nat → Int) (d d' : IS) : wd (frD g d) d' = frD g d' := rfl
def chkL (f : Fr) (n : Nat) : Int := chk (wd f (d0 n))
theorem chk_n (f : Fr) (n c N : Nat) (g : Nat → Int) : chk (wd f ⟨n, c, N, g⟩) = chkL f n := chk_wd f rfl
theorem tot_wd (f : Fr) {d d' : IS} (h : d.len = d'.len) : tot (wd f d) = tot (wd f d') := by
  unfold tot hl wd
  dsimp only
  rw [h]
theorem inG_wd (f : Fr) {d d' : IS} (h : d.len = d'.len) (e : ∀ r, r < d'.len → d.g r = d'.g r) (r : Nat) : inG (wd f d) r = inG (wd f d') r := by
  show (if r < hl f then (pre f).getD r 0 else if r < hl f + 4 then [hi f.typ, lo f.typ, hi d.len, lo d.len].getD (r - hl f) 0 else if r < hl f + 4 + d.len then d.g (r - (hl f + 4)) else 0) = (if r < hl f then (pre f).getD r 0 else if r < hl f + 4 then [hi f.typ, lo f.typ, hi d'.len, lo d'.len].getD (r - hl f) 0 else if r < hl f + 4 + d'.len then d'.g (r - (hl f + 4)) else 0)
  rw [h]
  split
  · rfl
  · split
    · rfl
    · split
      · exact e _ (by omega)
      · rfl
theorem frw_wd {f : Fr} (hf : FrW f) {d : IS} (hd : Bw d) : FrW (wd f d) := ⟨hf.a, hf.b, hd⟩
theorem enc_dok {g : Fr} {h : Nat → Int} (hk : chk g = 0) (hh : ∀ r, r < tot g → h r = inG g r) : DOk h (tot g + 4) := by
  have hp := parsed hk hh
  have hs := siz_tot g
  have ht : hl g + 4 + g.data.len ≤ tot g := by unfold tot; omega
  have hc : chk (frD h (d0 (dn h))) = chk g := by
    unfold chk BadN BadT siz frD d0
    dsimp only
    rw [hp.t, hp.m, hp.v, hp.p, hp.d, hp.s, hp.y, hp.n]
  have hz : siz (frD h (d0 (dn h))) = siz g := by
    unfold siz frD d0
    dsimp only
    rw [hp.t, hp.m, hp.n]
  refine ⟨fun hm => hp.z (hp.m ▸ hm), by rw [hp.q2, hp.n]; omega, hc.trans hk, by rw [hz, hs], fun r h1 h2 => ?_⟩
  rw [hp.q2, hp.n] at h1
  rw [hh r (by omega)]
  exact inG_zero h1
theorem enc_derr {g : Fr} {y : CG} (hg : FrW g) (hk : chk g = 0) (hy : CB (tot g + 4) (clG (inG g) (tot g)) y) : derr (fam (tot g + 4) y) = 0 := by
  have htb := tot_bd hk
  have hop := clG_op hg
  refine derr_0 (a := fam (tot g + 4) y) (by show ¬ tot g + 4 < 64; omega) (by show ¬ 1600 < tot g + 4; omega) ((opB_congr hy.2.2).2 hop) (enc_dok hk fun r hr => ?_)
  show y.g r = _
  rw [hy.2.2 r (by omega), clG_old hr]
theorem enc_back {g : Fr} {y z : CG} (hg : FrW g) (hk : chk g = 0) (hy : CB (tot g + 4) (clG (inG g) (tot g)) y) {d : IS} (hd : Bw d) (hl1 : g.data.len = d.len) (he : ∀ r, r < d.len → g.data.g r = d.g r) (hz : CB (dn (fun q => y.g (q + 0))) (dG (fun q => y.g (q + 0))) z) :
    sameF (frD (fun q => y.g (q + 0)) (fam (dn (fun q => y.g (q + 0))) z)) (wd g d) = true := by
  have ht : hl g + 4 + g.data.len ≤ tot g := by unfold tot; omega
  have hh : ∀ r, r < tot g → (fun q => y.g (q + 0)) r = inG g r := fun r hr => by
    show y.g r = _
    rw [hy.2.2 r (by omega), clG_old hr]
  have hp := parsed hk hh
  have hq2 := hp.q2
  have hn := hp.n
  have hzb : Bytes z.g (dn (fun q => y.g (q + 0))) := fun r hr => by
    rw [hz.2.2 r hr]
    show 0 ≤ (fun q => y.g (q + 0)) _ ∧ (fun q => y.g (q + 0)) _ < 256
    rw [hh _ (by omega)]
    exact inG_wf hg _
  unfold sameF
  rw [show sameB (frD (fun q => y.g (q + 0)) (fam (dn (fun q => y.g (q + 0))) z)).data (wd g d).data = true from (sameB_iff hzb hd.out.1).2 ⟨hn.trans hl1, fun r hr => ?_⟩, Bool.and_true]
  · obtain ⟨a0, a1, a2, a3, a4, a5⟩ := hp.a
    obtain ⟨b0, b1, b2, b3, b4, b5⟩ := hp.b
    exact decide_eq_true ⟨a0, a1, a2, a3, a4, a5, b0, b1, b2, b3, b4, b5, hp.t, hp.v, hp.p, hp.d, hp.m, hp.s, hp.y⟩
  · have hr : r < dn (fun q => y.g (q + 0)) := hr
    show z.g r = d.g r
    rw [hz.2.2 r hr]
    show (fun q => y.g (q + 0)) (o2 (fun q => y.g (q + 0)) + 4 + r) = d.g r
    rw [hh _ (by omega), hq2, inG_data r (by omega)]
    exact he r (by omega)
theorem sameB_copy {d : IS} (hd : Bw d) {x : CG} (hx : CB d.len d.g x) : sameB (fam d.len x) d = true :=
  (sameB_iff (hx.bw fun r hr => hd.out.1 r hr).out.1 hd.out.1).2 ⟨rfl, fun r hr => hx.2.2 r hr⟩
theorem f_t {p : Prop} {b : Bool} (h : b = true) (h2 : (!b) = true) : p := by rw [h] at h2; cases h2
theorem z_t : sameB ⟨0, 0, 0, fun _ => 0⟩ ⟨0, 0, 0, fun _ => 0⟩ = true := (sameB_iff (fun r hr => absurd hr (Nat.not_lt_zero r)) (fun r hr => absurd hr (Nat.not_lt_zero r))).2 ⟨rfl, fun r hr => absurd hr (Nat.not_lt_zero r)⟩
theorem both {f : Fr} (hf : FrW f) {d d' : IS} (hd : Bw d) (hd' : Bw d') (hl : d.len = d'.len) (e : ∀ r, r < d'.len → d.g r = d'.g r) {x y : CG} (hx : CB (tot (wd f d) + 4) (clG (inG (wd f d)) (tot (wd f d))) x) (hy : CB (tot (wd f d') + 4) (clG (inG (wd f d')) (tot (wd f d'))) y) :
    sameB (fam (tot (wd f d) + 4) x) (fam (tot (wd f d') + 4) y) = true := by
  have ht := tot_wd f hl
  have w1 := hx.bw fun r _ => clG_wf (fun q _ => inG_wf (frw_wd hf hd) q) r
  have w2 := hy.bw fun r _ => clG_wf (fun q _ => inG_wf (frw_wd hf hd') q) r
  refine (sameB_iff w1.out.1 w2.out.1).2 ⟨by show tot _ + 4 = tot _ + 4; rw [ht], fun r hr => ?_⟩
  have hr : r < tot (wd f d) + 4 := hr
  show x.g r = y.g r
  rw [hx.2.2 r hr, hy.2.2 r (by omega), ht]
  exact clG_congr (fun q _ => inG_wd f hl e q) r
theorem derr_e {a : IS} (h : derr a = 0) : 64 ≤ a.len ∧ a.len ≤ 1600 ∧ opB a.g a.len ∧ DOk a.g a.len := by
  by_cases h1 : a.len < 64
  · rw [derr_20 h1] at h; cases h
  · by_cases h2 : 1600 < a.len
    · rw [derr_3 h1 h2] at h; cases h
    · by_cases h3 : opB a.g a.len
      · by_cases h4 : DOk a.g a.len
        · exact ⟨by omega, by omega, h3, h4⟩
        · rw [derr_21 h1 h2 h3 h4] at h; cases h
      · rw [derr_22 h1 h2 h3] at h; cases h
theorem dec_bw {a : IS} (hw : Bw a) (h : derr a = 0) {y : CG} (hy : CB (dn a.g) (dG a.g) y) : Bw (fam (dn a.g) y) ∧ dn a.g ≤ 2000 := by
  obtain ⟨h1, h2, _, h4⟩ := derr_e h
  have h5 := h4.n
  exact ⟨hy.bw fun r hr => hw.out.1 _ (by omega), by omega⟩
theorem z1 {f : Fr} (hf : FrW f) {n c N : Nat} {g : Nat → Int} (hd : Bw ⟨n, c, N, g⟩) {x : CG} (hx : CB n g x) {y : CG} (k1 : chkL f n = 0 ∧ CB (tot (wd f ⟨n, x.cap, x.cap - 0, fun q => x.g (q + 0)⟩) + 4) (clG (inG (wd f ⟨n, x.cap, x.cap - 0, fun q => x.g (q + 0)⟩)) (tot (wd f ⟨n, x.cap, x.cap - 0, fun q => x.g (q + 0)⟩))) y) : Bw ⟨tot (wd f ⟨n, x.cap, x.cap - 0, fun q => x.g (q + 0)⟩) + 4, y.cap, y.cap - 0, fun q => y.g (q + 0)⟩ := by
  have hG := frw_wd hf (hx.bw fun r hr => hd.out.1 r hr)
  exact k1.2.bw fun r _ => clG_wf (fun q _ => inG_wf hG q) r
theorem z2 {f : Fr} (hf : FrW f) {n c N : Nat} {g : Nat → Int} (hd : Bw ⟨n, c, N, g⟩) {y2 : CG} (k2 : chkL f n = 0 ∧ CB (tot (wd f ⟨n, c, N, g⟩) + 4) (clG (inG (wd f ⟨n, c, N, g⟩)) (tot (wd f ⟨n, c, N, g⟩))) y2) : Bw ⟨tot (wd f ⟨n, c, N, g⟩) + 4, y2.cap, y2.cap - 0, fun q => y2.g (q + 0)⟩ :=
  k2.2.bw fun r _ => clG_wf (fun q _ => inG_wf (frw_wd hf hd) q) r
theorem z3 {f : Fr} (hf : FrW f) {n c N : Nat} {g : Nat → Int} (hd : Bw ⟨n, c, N, g⟩) {x : CG} (hx : CB n g x) {y : CG} (k1 : chkL f n = 0 ∧ CB (tot (wd f ⟨n, x.cap, x.cap - 0, fun q => x.g (q + 0)⟩) + 4) (clG (inG (wd f ⟨n, x.cap, x.cap - 0, fun q => x.g (q + 0)⟩)) (tot (wd f ⟨n, x.cap, x.cap - 0, fun q => x.g (q + 0)⟩))) y) {y2 : CG} (k2 : chkL f n = 0 ∧ CB (tot (wd f ⟨n, c, N, g⟩) + 4) (clG (inG (wd f ⟨n, c, N, g⟩)) (tot (wd f ⟨n, c, N, g⟩))) y2) {p : Prop} (h : (!sameB ⟨tot (wd f ⟨n, x.cap, x.cap - 0, fun q => x.g (q + 0)⟩) + 4, y.cap, y.cap - 0, fun q => y.g (q + 0)⟩ ⟨tot (wd f ⟨n, c, N, g⟩) + 4, y2.cap, y2.cap - 0, fun q => y2.g (q + 0)⟩) = true) : p :=
  f_t (both hf (hx.bw fun r hr => hd.out.1 r hr) hd rfl hx.2.2 k1.2 k2.2) h
theorem z4 {f : Fr} (hf : FrW f) {n c N : Nat} {g : Nat → Int} (hd : Bw ⟨n, c, N, g⟩) {x : CG} (hx : CB n g x) {y : CG} (k1 : chkL f n = 0 ∧ CB (tot (wd f ⟨n, x.cap, x.cap - 0, fun q => x.g (q + 0)⟩) + 4) (clG (inG (wd f ⟨n, x.cap, x.cap - 0, fun q => x.g (q + 0)⟩)) (tot (wd f ⟨n, x.cap, x.cap - 0, fun q => x.g (q + 0)⟩))) y) : tot (wd f ⟨n, x.cap, x.cap - 0, fun q => x.g (q + 0)⟩) ≤ 99996 := by
  have hk := (chk_n f n x.cap (x.cap - 0) (fun q => x.g (q + 0))).trans k1.1
  have hG := frw_wd hf (hx.bw fun r hr => hd.out.1 r hr)
  have htb := tot_bd hk
  omega
theorem z5 {f : Fr} (hf : FrW f) {n c N : Nat} {g : Nat → Int} (hd : Bw ⟨n, c, N, g⟩) {x : CG} (hx : CB n g x) {y : CG} (k1 : chkL f n = 0 ∧ CB (tot (wd f ⟨n, x.cap, x.cap - 0, fun q => x.g (q + 0)⟩) + 4) (clG (inG (wd f ⟨n, x.cap, x.cap - 0, fun q => x.g (q + 0)⟩)) (tot (wd f ⟨n, x.cap, x.cap - 0, fun q => x.g (q + 0)⟩))) y) {p : Prop} (h : derr ⟨tot (wd f ⟨n, x.cap, x.cap - 0, fun q => x.g (q + 0)⟩) + 4, y.cap, y.cap - 0, fun q => y.g (q + 0)⟩ ≠ 0) : p := by
  have hk := (chk_n f n x.cap (x.cap - 0) (fun q => x.g (q + 0))).trans k1.1
  have hG := frw_wd hf (hx.bw fun r hr => hd.out.1 r hr)
  exact absurd (enc_derr hG hk k1.2) h
theorem z6 {f : Fr} (hf : FrW f) {n c N : Nat} {g : Nat → Int} (hd : Bw ⟨n, c, N, g⟩) {x : CG} (hx : CB n g x) {y : CG} (k1 : chkL f n = 0 ∧ CB (tot (wd f ⟨n, x.cap, x.cap - 0, fun q => x.g (q + 0)⟩) + 4) (clG (inG (wd f ⟨n, x.cap, x.cap - 0, fun q => x.g (q + 0)⟩)) (tot (wd f ⟨n, x.cap, x.cap - 0, fun q => x.g (q + 0)⟩))) y) : true = decide (max 64 (siz (wd f ⟨n, c, N, g⟩)) = ((tot (wd f ⟨n, x.cap, x.cap - 0, fun q => x.g (q + 0)⟩) + 4 : Nat) : Int)) := by
  symm
  refine decide_eq_true ?_
  rw [tot_wd f (d := ⟨n, x.cap, x.cap - 0, fun q => x.g (q + 0)⟩) (d' := ⟨n, c, N, g⟩) rfl]
  exact siz_tot _
theorem z7 {f : Fr} (hf : FrW f) {n c N : Nat} {g : Nat → Int} (hd : Bw ⟨n, c, N, g⟩) {x : CG} (hx : CB n g x) {y : CG} (k1 : chkL f n = 0 ∧ CB (tot (wd f ⟨n, x.cap, x.cap - 0, fun q => x.g (q + 0)⟩) + 4) (clG (inG (wd f ⟨n, x.cap, x.cap - 0, fun q => x.g (q + 0)⟩)) (tot (wd f ⟨n, x.cap, x.cap - 0, fun q => x.g (q + 0)⟩))) y) {z : CG} (k3 : derr ⟨tot (wd f ⟨n, x.cap, x.cap - 0, fun q => x.g (q + 0)⟩) + 4, y.cap, y.cap - 0, fun q => y.g (q + 0)⟩ = 0 ∧ CB (dn (fun q => y.g (q + 0))) (dG (fun q => y.g (q + 0))) z) : Bw ⟨dn (fun q => y.g (q + 0)), z.cap, z.cap - 0, fun q => z.g (q + 0)⟩ := by
  have hk := (chk_n f n x.cap (x.cap - 0) (fun q => x.g (q + 0))).trans k1.1
  have hG := frw_wd hf (hx.bw fun r hr => hd.out.1 r hr)
  exact (dec_bw (z1 hf hd hx k1) k3.1 k3.2).1
theorem z8 {f : Fr} (hf : FrW f) {n c N : Nat} {g : Nat → Int} (hd : Bw ⟨n, c, N, g⟩) {x : CG} (hx : CB n g x) {y : CG} (k1 : chkL f n = 0 ∧ CB (tot (wd f ⟨n, x.cap, x.cap - 0, fun q => x.g (q + 0)⟩) + 4) (clG (inG (wd f ⟨n, x.cap, x.cap - 0, fun q => x.g (q + 0)⟩)) (tot (wd f ⟨n, x.cap, x.cap - 0, fun q => x.g (q + 0)⟩))) y) {z : CG} (k3 : derr ⟨tot (wd f ⟨n, x.cap, x.cap - 0, fun q => x.g (q + 0)⟩) + 4, y.cap, y.cap - 0, fun q => y.g (q + 0)⟩ = 0 ∧ CB (dn (fun q => y.g (q + 0))) (dG (fun q => y.g (q + 0))) z) {p : Prop}
    (h : sameF (frD (fun q => y.g (q + 0)) ⟨dn (fun q => y.g (q + 0)), z.cap, z.cap - 0, fun q => z.g (q + 0)⟩) (wd f ⟨n, c, N, g⟩) = false) : p := by
  have hk := (chk_n f n x.cap (x.cap - 0) (fun q => x.g (q + 0))).trans k1.1
  have hG := frw_wd hf (hx.bw fun r hr => hd.out.1 r hr)
  have h9 := enc_back hG hk k1.2 hd rfl hx.2.2 k3.2
  exact absurd (h9.symm.trans h) (by decide)
inductive WX where
  | old
  | ext (n c : Nat) (g : Nat → Int)
abbrev TW (f : Fr) : WX → St
  | .old => ⟨93, [(2, .one (.a (.ptr 1 0)))], [roB f.data, frR f]⟩
  | .ext n c g => ⟨93, [(2, .one (.a (.ptr 1 0)))], [roB f.data, frJ (wd f ⟨n, c, c, g⟩), rwB ⟨c, g⟩]⟩
abbrev invW (f : Fr) : WX → Prop
  | .old => f.data.len ≤ 1700
  | .ext n c g => Bw ⟨n, c, c, g⟩ ∧ n ≤ 4000
abbrev laW (f : Fr) : LA where
  ι := WX
  inv := invW f
  T := TW f
  μ := fun _ => 0
  ren := fun S => match ixc S 2 19 with | 0 => [0, S.ix 2] | k => [0, S.ix 2, k]
attribute [local irreducible] chk derr sameF
noncomputable def cxL (f : Fr) : Cx Try.prog := { ps := [eheadS, sameS, rsamS, plS, chkS, sizS], es := [copyS, encS, rencS, decS], is := [], n0 := 1, loops := fun _ => none, cuts := fun i => (match i with | 7 => some (laW f) | _ => none) }
set_option maxHeartbeats 16000000 in
theorem runs (f : Fr) (long : Int) (hf : FrW f) : Runs (cxL f) Try.f11 [F1 0 f, int_ .i64 long] [roB f.data] yes := by
  have hd := hf.d.out
  repeat' (first | with_reducible exact trivial | with_reducible exact rfl | with_reducible exact Nat.le_refl _ | with_reducible exact (fun _ _ => rfl) | ((conv => whnf); first | (refine fun (x : CG) => ?_) | ((refine fun (y : WX) => ?_); rcases y with y | y) | (exact fun h => absurd h (by decide)) | (intro h9; (have h8 := of_decide_eq_true (p := type_of% h9) (by decide)); clear h8 h9) | (refine fun _ => ?_) | refine ⟨?_, ?_⟩ | exact trivial | exact Nat.le_refl _ | exact lex_q (by kernel_rfl) | exact lex_t (by kernel_rfl) | exact lex_h (by kernel_rfl) | fail))
  all_goals (try exact no_t (by assumption))
  all_goals (try dsimp only [cutR, cutL, id] at *)
  all_goals (try simp only [wd_lit, wd_wd, wd_data, wd_frD] at *)
  all_goals (try simp (disch := omega) only [fdiv_nn, Int.reduceToNat, IntKind.bits, Nat.min_def, Nat.reduceLeDiff, if_true, if_false, Int.reducePow, wu8, wu32, w64', wu64', tdiv_pos, tmod_pos, Int.toNat_natCast, Nat.zero_add] at *)
  all_goals (try omega)
  all_goals (try rfl)
  · exact hf.d.self
  · have h9 := (by assumption : CB f.data.len (fun q => f.data.g (q + 0)) _).len; omega
  · have h9 := (by assumption : CB f.data.len (fun q => f.data.g (q + 0)) _).len; omega
  · have h9 := (by assumption : CB f.data.len (fun q => f.data.g (q + 0)) _)
    (conv => whnf); refine enter_mk (la := laW f) (.ext _ _ _) ?_ (by (repeat' (first | ((conv => whnf); first | refine ⟨?_, ?_⟩ | exact trivial | fail) | (dsimp only; done) | ((try dsimp only); first | with_reducible exact rfl | exact Nat.le_refl _ | with_reducible exact (fun _ _ => rfl)))); all_goals ((first | rfl | omega)))
    refine ⟨Bw.mk (fun r hr => ?_) (by assumption) (by assumption) (by assumption), by omega⟩
    have hr : r < f.data.len + (1500 + long).toNat := hr
    dsimp only
    by_cases h1 : r < f.data.len
    · rw [if_pos h1, h9.2.2 r h1]; exact hd.1 r h1
    · rw [if_neg h1, if_pos hr]; exact ⟨Int.le_refl _, by decide⟩
  · (conv => whnf); refine enter_mk (la := laW f) .old ?_ (by (repeat' (first | ((conv => whnf); first | refine ⟨?_, ?_⟩ | exact trivial | fail) | (dsimp only; done) | ((try dsimp only); first | with_reducible exact rfl | exact Nat.le_refl _ | with_reducible exact (fun _ _ => rfl)))); all_goals ((first | rfl | omega)))
    show f.data.len ≤ 1700; omega
  · (conv => whnf); refine enter_mk (la := laW f) .old ?_ (by (repeat' (first | ((conv => whnf); first | refine ⟨?_, ?_⟩ | exact trivial | fail) | (dsimp only; done) | ((try dsimp only); first | with_reducible exact rfl | exact Nat.le_refl _ | with_reducible exact (fun _ _ => rfl)))); all_goals ((first | rfl | omega)))
    show f.data.len ≤ 1700; omega
  all_goals (try exact bw_zero)
  all_goals (try exact hf.d.self)
  all_goals (try (have hX := (by assumption : invW f (.ext _ _ _)); exact hX.1.self))
  all_goals (try (have hX := (by assumption : invW f .old); have hX : f.data.len ≤ 1700 := hX; omega))
  all_goals (try (have hX := (by assumption : invW f (.ext _ _ _)); have hX := hX.2; omega))
  all_goals first
    | (have hX := (by assumption : invW f .old)
       have hDl : f.data.len ≤ 4000 := (by have h9 : f.data.len ≤ 1700 := hX; omega)
       have hDB := hf.d.self
       have hx := (by assumption : CB f.data.len (fun q => f.data.g (q + 0)) _)
       have hxw := hx.bw (fun r hr => hDB.out.1 r hr)
       have hsx := sameB_copy hDB hx
       have hF := frw_wd hf hDB
       have hG := frw_wd hf hxw)
    | (have hX := (by assumption : invW f (.ext _ _ _))
       have hDl := hX.2
       have hDB := hX.1.self
       have hx := (by assumption : CB _ (fun q => (_ : Nat → Int) (q + 0)) _)
       have hxw := hx.bw (fun r hr => hDB.out.1 r hr)
       have hsx := sameB_copy hDB hx
       have hF := frw_wd hf hDB
       have hG := frw_wd hf hxw)
  all_goals (try simp only [chk_n] at *)
  all_goals (try exact absurd rfl (by assumption))
  all_goals (try exact absurd trivial (by assumption))
  all_goals (try exact hxw)
  all_goals (try exact hF)
  all_goals (try exact hG)
  all_goals (try (show _ ≤ 100000; dsimp only [wd]; omega))
  all_goals (try exact f_t hsx (by assumption))
  all_goals (try exact f_t z_t (by assumption))
  all_goals (try (exact absurd (by assumption : chkL _ _ = 0 ∧ _).1 (by assumption)))
  all_goals (try (exact absurd (by assumption : chkL _ _ = 0 ∧ _).1.symm (by assumption)))
  all_goals first
    | exact z1 hf hDB hx (by assumption)
    | exact z2 hf hDB (by assumption)
    | exact z3 hf hDB hx (by assumption) (by assumption) (by assumption)
    | exact z4 hf hDB hx (by assumption)
    | exact z5 hf hDB hx (by assumption) (by assumption)
    | exact z6 hf hDB hx (by assumption)
    | exact z7 hf hDB hx (by assumption) (by assumption)
    | exact z8 hf hDB hx (by assumption) (by assumption) (by assumption)
    | fail

theorem own : ownKnob Try.prog.godebug = none := by kernel_rfl

set_option maxRecDepth 100000 in
theorem lifted (os : Os) (started : os.Started) (H : Type) (enc : TypeId × Value → H) :
    ReturnsInHanded {} Try.checked os 11 .any (Rows.etherWritesSpec.pre6 enc Try.prog Try.f11 Rows.etherWritesRow.domain false) (Rows.etherWritesSpec.post enc Try.prog Try.f11 false true false false) := by
  refine returnsInHanded_of_change (C := Try.checked) own started (by kernel_rfl) Try.func11
    (ChangeSpec.witness6 (enc := enc) (C := Try.checked) false ⟨#[], #[.agg #[.int .u8 0, .int .u8 0, .int .u8 0, .int .u8 0, .int .u8 0, .int .u8 0, .int .u8 0, .int .u8 0, .int .u8 0, .int .u8 0, .int .u8 0, .int .u8 0, .bool false, .int .i64 0, .int .i64 0, .bool false, .bool false, .int .i64 0, .int .i64 0, .slice none 0 0], .int .i64 0], []⟩ 8 (by kernel_rfl) (by kernel_rfl) (by kernel_rfl) (by kernel_rfl)) ?_
  intro W base args ds gs before hval0 hW hcnd _
  have hval : ∀ (j : Nat) t v, Try.f11.params[j]? = some t → args[j]? = some v → Value.okWide Try.prog W .any base t v := hval0
  have hW' := hW
  obtain ⟨p, q, hA0, hV, rfl, hfz, hnd⟩ := hW
  have hA : DataW.TrodAll enc Try.prog W 0 (fun _ => true) true Try.f11.params.toList args.toList ds p := hA0
  rw [Try.params11] at hA hval
  obtain ⟨v0, vs0, d0, ds0, p0, q0, hargs0, rfl, rfl, h0, r0⟩ := trodAll_cons hA
  obtain ⟨v1, vs1, d1, ds1, p1, q1, hargs1, rfl, rfl, h1, r1⟩ := trodAll_cons r0
  obtain ⟨rfl, rfl, rfl⟩ := trodAll_nil r1
  obtain ⟨rfl, rfl⟩ := trodVars_none hV
  obtain rfl : args = #[v0, v1] := by cases args; simp_all
  obtain ⟨a1, rfl, rfl, rfl, w1⟩ := open_int Try.underlying3 (hval 1 3 v1 rfl rfl) h1
  obtain ⟨cs0, hv0, hl0, hc0⟩ := mix_agg (d := 6) (ss := [.num (some .u8), .num (some .u8), .num (some .u8), .num (some .u8), .num (some .u8), .num (some .u8), .num (some .u8), .num (some .u8), .num (some .u8), .num (some .u8), .num (some .u8), .num (some .u8), .num (none), .num (some .i64), .num (some .i64), .num (none), .num (none), .num (some .i64), .num (some .i64), .sl [some .u8]]) Try.underlying43 (by kernel_rfl) (by kernel_rfl) (hval 0 43 v0 rfl rfl) h0
  have g0_0 := listMix_of hl0 hc0
  clear hl0 hc0
  obtain ⟨_, cs0_1, rfl, ⟨b0_0, rfl, w0_0⟩, g0_1⟩ := listMix_cons g0_0
  obtain ⟨_, cs0_2, rfl, ⟨b0_1, rfl, w0_1⟩, g0_2⟩ := listMix_cons g0_1
  obtain ⟨_, cs0_3, rfl, ⟨b0_2, rfl, w0_2⟩, g0_3⟩ := listMix_cons g0_2
  obtain ⟨_, cs0_4, rfl, ⟨b0_3, rfl, w0_3⟩, g0_4⟩ := listMix_cons g0_3
  obtain ⟨_, cs0_5, rfl, ⟨b0_4, rfl, w0_4⟩, g0_5⟩ := listMix_cons g0_4
  obtain ⟨_, cs0_6, rfl, ⟨b0_5, rfl, w0_5⟩, g0_6⟩ := listMix_cons g0_5
  obtain ⟨_, cs0_7, rfl, ⟨b0_6, rfl, w0_6⟩, g0_7⟩ := listMix_cons g0_6
  obtain ⟨_, cs0_8, rfl, ⟨b0_7, rfl, w0_7⟩, g0_8⟩ := listMix_cons g0_7
  obtain ⟨_, cs0_9, rfl, ⟨b0_8, rfl, w0_8⟩, g0_9⟩ := listMix_cons g0_8
  obtain ⟨_, cs0_10, rfl, ⟨b0_9, rfl, w0_9⟩, g0_10⟩ := listMix_cons g0_9
  obtain ⟨_, cs0_11, rfl, ⟨b0_10, rfl, w0_10⟩, g0_11⟩ := listMix_cons g0_10
  obtain ⟨_, cs0_12, rfl, ⟨b0_11, rfl, w0_11⟩, g0_12⟩ := listMix_cons g0_11
  obtain ⟨_, cs0_13, rfl, ⟨b0_12, rfl⟩, g0_13⟩ := listMix_cons g0_12
  obtain ⟨_, cs0_14, rfl, ⟨b0_13, rfl, w0_13⟩, g0_14⟩ := listMix_cons g0_13
  obtain ⟨_, cs0_15, rfl, ⟨b0_14, rfl, w0_14⟩, g0_15⟩ := listMix_cons g0_14
  obtain ⟨_, cs0_16, rfl, ⟨b0_15, rfl⟩, g0_16⟩ := listMix_cons g0_15
  obtain ⟨_, cs0_17, rfl, ⟨b0_16, rfl⟩, g0_17⟩ := listMix_cons g0_16
  obtain ⟨_, cs0_18, rfl, ⟨b0_17, rfl, w0_17⟩, g0_18⟩ := listMix_cons g0_17
  obtain ⟨_, cs0_19, rfl, ⟨b0_18, rfl, w0_18⟩, g0_19⟩ := listMix_cons g0_18
  obtain ⟨u0_19, cs0_20, rfl, ⟨A0_19, n0_19, c0_19, s0_19⟩, g0_20⟩ := listMix_cons g0_19
  obtain rfl := listMix_nil g0_20
  subst hv0
  refine Calls.mono (law_calls mixed Try.func11 (runs ⟨b0_0, b0_1, b0_2, b0_3, b0_4, b0_5, b0_6, b0_7, b0_8, b0_9, b0_10, b0_11, b0_12, b0_13, b0_14, b0_15, b0_16, b0_17, b0_18, ⟨n0_19, c0_19, n0_19, fun r => intC W A0_19 (r * 1 + 0)⟩⟩ a1 ⟨⟨u8_of w0_0, u8_of w0_1, u8_of w0_2, u8_of w0_3, u8_of w0_4, u8_of w0_5⟩, ⟨u8_of w0_6, u8_of w0_7, u8_of w0_8, u8_of w0_9, u8_of w0_10, u8_of w0_11⟩, bw_of s0_19⟩) (e := envOf [A0_19]) (rel_in1 s0_19.reg) (Nat.le_refl 1) (by rw [s0_19.val]; exact congrArg (fun x => #[x, _]) (den_fr (A := A0_19) rfl).symm)) fun e W' ⟨he, hb⟩ => ?_
  subst he
  exact ⟨_, rfl, law_post hW' rfl rfl (by kernel_rfl) (by decide +kernel) rfl Try.underlying4 hb⟩

theorem over : Rows.etherWritesRow.holds Try.pinned (OpenSpec.ofChange Rows.etherWritesSpec) :=
  OpenClaim.holds_of_wide 11 Try.f11 rfl rfl rfl rfl rfl rfl rfl ⟨rfl, rfl, rfl, rfl, rfl⟩ rfl rfl rfl rfl rfl (by kernel_rfl) Try.func11 (by kernel_rfl)
    (of_decide_eq_true (by kernel_rfl)) (by unfold Func.isWrapper; first | (rw [if_pos (by decide +kernel)]; kernel_rfl) | (rw [if_neg (by decide +kernel)]; exact ⟨rfl, rfl⟩))
    (fun os started H enc _ => lifted os started H enc)

/-- EtherWrites -/
theorem proved : Rows.EtherWritesSaid := over
#print axioms proved
end Go.Proofs.Ytiaadplhpkggeaa.etherWrites
