/-
  Contracts of functions, and plain facts about them, that a claim of this seat uses.
-/
import Derived.Test.YtnkmfkongmijfaaSx
import Derived.Test.YtnkmfkongmijfaaFdbB
import Derived.Test.YtnkmfkongmijfaaProg
namespace Go.Proofs.Ytnkmfkongmijfaa
open Go.Sx
set_option linter.unusedVariables false
set_option linter.unusedSimpArgs false
set_option maxRecDepth 100000

/-! fdb: the reference's lists. -/
/-- a list of VLANs -/
structure VC where
  len : Nat
  cap : Nat
  N : Nat
  g0 : Nat → Int
  g1 : Nat → Int
  g2 : Nat → Int
/-- how frames come in -/
structure PC where
  len : Nat
  cap : Nat
  N : Nat
  c0 : Nat → Int
  c1 : Nat → Int
  c2 : Nat → Int
  c3 : Nat → Int
  c4 : Nat → Int
  c5 : Nat → Int
  c6 : Nat → Int
  c7 : Nat → Int
  c8 : Nat → Int
/-- a list of addresses -/
structure AC where
  len : Nat
  cap : Nat
  N : Nat
  vid : Nat → Int
  m0 : Nat → Int
  m1 : Nat → Int
  m2 : Nat → Int
  m3 : Nat → Int
  m4 : Nat → Int
  m5 : Nat → Int
  po : Nat → Int
  st : Nat → Bool
  se : Nat → Int
structure RT where
  n : Int
  room : Int
  v : VC
  p : PC
  a : AC
def vcC (v : VC) : List Col := [.int .i64 v.g0, .int .i64 v.g1, .int .i64 v.g2]
def pcC (p : PC) : List Col := [.int .i64 p.c0, .int .i64 p.c1, .int .i64 p.c2, .int .i64 p.c3, .int .i64 p.c4, .int .i64 p.c5, .int .i64 p.c6, .int .i64 p.c7, .int .i64 p.c8]
def acC (a : AC) : List Col := [.int .i64 a.vid, .int .u8 a.m0, .int .u8 a.m1, .int .u8 a.m2, .int .u8 a.m3, .int .u8 a.m4, .int .u8 a.m5, .int .i64 a.po, .bool a.st, .int .i64 a.se]
def roV (v : VC) : Option Reg := some ⟨false, .tab v.N (vcC v)⟩
def roP (p : PC) : Option Reg := some ⟨false, .tab p.N (pcC p)⟩
def roA (a : AC) : Option Reg := some ⟨false, .tab a.N (acC a)⟩
def rwV (v : VC) : Option Reg := some ⟨true, .tab v.cap (vcC v)⟩
def rwP (p : PC) : Option Reg := some ⟨true, .tab p.cap (pcC p)⟩
def rwA (a : AC) : Option Reg := some ⟨true, .tab a.cap (acC a)⟩
def slV (j : Nat) (v : VC) : SA := .slc j 3 0 v.len v.cap
def slP (j : Nat) (p : PC) : SA := .slc j 9 0 p.len p.cap
def slA (j : Nat) (a : AC) : SA := .slc j 10 0 a.len a.cap
/-- a table's cells -/
def rtL (x : RT) (sv sp sa : SA) : List SA := [i_ x.n, i_ x.room, sv, sp, sa]
def rt0 (x : RT) : List SA := rtL x (slV 0 x.v) (slP 1 x.p) (slA 2 x.a)
def rtM (x : RT) : Mem := [roV x.v, roP x.p, roA x.a]
def SlR (len cap N : Nat) : Prop := len ≤ cap ∧ len ≤ N ∧ cap ≤ 9223372036854775807
structure RTw (x : RT) : Prop where
  n : 1 ≤ x.n ∧ x.n ≤ 8
  v : SlR x.v.len x.v.cap x.v.N
  p : SlR x.p.len x.p.cap x.p.N
  a : SlR x.a.len x.a.cap x.a.N
  pl : (x.p.len : Int) = x.n
  am : x.a.len ≤ 100000
  vm : x.v.len ≤ 100000
def Lens.rt : Lens RT where
  sp := .agg [.i .i64, .i .i64, .s [some .i64, some .i64, some .i64], .s [some .i64, some .i64, some .i64, some .i64, some .i64, some .i64, some .i64, some .i64, some .i64], .s [some .i64, some .u8, some .u8, some .u8, some .u8, some .u8, some .u8, some .i64, none, some .i64]]
  pat := fun a => match a with
    | .agg [.i .i64 n, .i .i64 room, .s vl vc vN [.int .i64 v0, .int .i64 v1, .int .i64 v2], .s pl pc pN [.int .i64 p0, .int .i64 p1, .int .i64 p2, .int .i64 p3, .int .i64 p4, .int .i64 p5, .int .i64 p6, .int .i64 p7, .int .i64 p8], .s al ac aN [.int .i64 a0, .int .u8 a1, .int .u8 a2, .int .u8 a3, .int .u8 a4, .int .u8 a5, .int .u8 a6, .int .i64 a7, .bool a8, .int .i64 a9]] => some ⟨n, room, ⟨vl, vc, vN, v0, v1, v2⟩, ⟨pl, pc, pN, p0, p1, p2, p3, p4, p5, p6, p7, p8⟩, ⟨al, ac, aN, a0, a1, a2, a3, a4, a5, a6, a7, a8, a9⟩⟩
    | _ => none
  arg := fun x => .agg [.i .i64 x.n, .i .i64 x.room, .s x.v.len x.v.cap x.v.N (vcC x.v), .s x.p.len x.p.cap x.p.N (pcC x.p), .s x.a.len x.a.cap x.a.N (acC x.a)]
  ok := fun a x h => by
    split at h
    · cases h; rfl
    · cases h
structure En where
  k : Pl
  po : Int
  st : Bool
  se : Int
def enC (e : En) : SV1 := .agg [i_ e.k.vid, u_ e.k.m0, u_ e.k.m1, u_ e.k.m2, u_ e.k.m3, u_ e.k.m4, u_ e.k.m5, i_ e.po, b_ e.st, i_ e.se]
def Lens.en : Lens En where
  sp := .agg [.i .i64, .i .u8, .i .u8, .i .u8, .i .u8, .i .u8, .i .u8, .i .i64, .b, .i .i64]
  pat := fun a => match a with
    | .agg [.i .i64 a, .i .u8 b, .i .u8 c, .i .u8 d, .i .u8 e, .i .u8 f, .i .u8 g, .i .i64 h, .b i, .i .i64 j] => some ⟨⟨a, b, c, d, e, f, g⟩, h, i, j⟩
    | _ => none
  arg := fun x => .agg [.i .i64 x.k.vid, .i .u8 x.k.m0, .i .u8 x.k.m1, .i .u8 x.k.m2, .i .u8 x.k.m3, .i .u8 x.k.m4, .i .u8 x.k.m5, .i .i64 x.po, .b x.st, .i .i64 x.se]
  ok := fun a x h => by
    split at h
    · cases h; rfl
    · cases h
/-- rows in order -/
def rows {α : Type} (f : Nat → α) : Nat → Nat → List α
  | 0, _ => []
  | n + 1, i => f i :: rows f n (i + 1)
theorem rows_step {α : Type} {f : Nat → α} {n i : Nat} (h : i < n) : rows f (n - i) i = f i :: rows f (n - (i + 1)) (i + 1) := by
  obtain ⟨k, hk⟩ : ∃ k, n - i = k + 1 := ⟨n - i - 1, by omega⟩
  rw [hk, show n - (i + 1) = k by omega]; rfl
theorem rows_end {α : Type} {f : Nat → α} {n i : Nat} (h : n ≤ i) : rows f (n - i) i = [] := by
  rw [show n - i = 0 by omega]; rfl
theorem rows_push {α : Type} {f g : Nat → α} : ∀ (n i : Nat), (∀ r, i ≤ r → r < i + n → g r = f r) → rows g (n + 1) i = rows f n i ++ [g (i + n)]
  | 0, i, _ => rfl
  | n + 1, i, h => by
    show g i :: rows g (n + 1) (i + 1) = f i :: (rows f n (i + 1) ++ [g (i + (n + 1))])
    rw [rows_push n (i + 1) (fun r h1 h2 => h r (by omega) (by omega)), h i (Nat.le_refl _) (by omega), show i + 1 + n = i + (n + 1) by omega]
theorem rows_len {α : Type} {f : Nat → α} : ∀ n i, (rows f n i).length = n
  | 0, _ => rfl
  | n + 1, i => by show (rows f n (i + 1)).length + 1 = n + 1; rw [rows_len n]
theorem rows_congr {α : Type} {f g : Nat → α} : ∀ (n i : Nat), (∀ r, i ≤ r → r < i + n → g r = f r) → rows g n i = rows f n i
  | 0, _, _ => rfl
  | n + 1, i, h => by
    show g i :: rows g n (i + 1) = f i :: rows f n (i + 1)
    rw [h i (Nat.le_refl _) (by omega), rows_congr n (i + 1) (fun r h1 h2 => h r (by omega) (by omega))]
abbrev KV := List Int × List Int
def bI (b : Bool) : Int := if b then 1 else 0
def acR (a : AC) (r : Nat) : KV := ([a.vid r, a.m0 r, a.m1 r, a.m2 r, a.m3 r, a.m4 r, a.m5 r], [a.po r, bI (a.st r), a.se r])
def acL (a : AC) : List KV := rows (acR a) a.len 0
def vcR (v : VC) (r : Nat) : KV := ([v.g0 r], [v.g1 r, v.g2 r])
def vcL (v : VC) : List KV := rows (vcR v) v.len 0
def pcR (p : PC) (r : Nat) : Pt := ⟨p.c0 r, p.c1 r, p.c2 r, p.c3 r, p.c4 r, p.c5 r, p.c6 r, p.c7 r, p.c8 r⟩
def enR (e : En) : KV := (plK e.k, [e.po, bI e.st, e.se])
/-- the first of a key -/
def fst_ (k : List Int) : List KV → Option (List Int)
  | [] => none
  | r :: l => if r.1 = k then some r.2 else fst_ k l

end Go.Proofs.Ytnkmfkongmijfaa
