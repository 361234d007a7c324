/- Lemmas and walks for the claim; no condition beyond what each states. -/
import Derived.Test.YtbpiahpkbapijaaDoorQ7
import Derived.Shelf.Utf8.AppendRunePlain
import Derived.Test.YtbpiahpkbapijaaDoorProg
import Derived.WalkLawsBesides
import Derived.Maps.AppendAt
import Derived.ArgAppend
import Derived.Deep.AppendLies
import Derived.Lib.FrozenHead2
section
namespace Go.Proofs
open Go.Shelf
def Tryd.lays242_ren : Go.Shelf.Ren := ⟨fun | 242 => 75 | 278 => 84 | n => n, fun | 37 => 49 | 21 => 21 | 51 => 118 | 4 => 4 | 5 => 5 | 46 => 48 | n => n, fun | n => n⟩
theorem Tryd.lays242 : Go.Proofs.Lays.n242 Tryd.prog Tryd.lays242_ren := {
 mixed := by kernel_rfl
 f242 := Tryd.func75.trans (congrArg some (by kernel_rfl))
 f278 := Tryd.func84.trans (congrArg some (by kernel_rfl))
 t4 := Tryd.underlying4
 a4 := Tryd.isAgg4
 z4 := Tryd.sizeOf4
 v4 := Tryd.zeroValue4
 t5 := Tryd.underlying5
 a5 := Tryd.isAgg5
 z5 := Tryd.sizeOf5
 v5 := Tryd.zeroValue5
 t21 := Tryd.underlying21
 a21 := Tryd.isAgg21
 z21 := Tryd.sizeOf21
 v21 := Tryd.zeroValue21
 t37 := Tryd.underlying49
 a37 := Tryd.isAgg49
 z37 := Tryd.sizeOf49
 v37 := Tryd.zeroValue49
 t46 := Tryd.underlying48
 a46 := Tryd.isAgg48
 z46 := Tryd.sizeOf48
 v46 := Tryd.zeroValue48
 t51 := Tryd.underlying118
 a51 := Tryd.isAgg118
 z51 := Tryd.sizeOf118
 v51 := Tryd.zeroValue118 }
open Go.RowKit in
theorem Tryd.utf8_AppendRune_plain (B : Nat) (v : Value) (n : Nat) (xs : List Value) (r : Int) (hr0 : -2147483648 ≤ r) (hr1 : r ≤ 2147483647) (w : World) (hown : w.ownsRow B 5 1 v n xs) (hlen : n + 4 ≤ 140737488355328) (hBw : B ≤ w.heap.size) :
  Calls Tryd.prog 75 #[v, .int .i32 r] w fun e w' => ∃ v', e = .returned v' ∧ w'.ownsRow B 5 1 v' (n + (Lib.runeCells r).length) (xs ++ Lib.runeCells r) ∧ ∃ o, (w.alloc o).grownBy w' v.ownBlock := Any.utf8_AppendRune_plain Tryd.lays242 (by kernel_rfl) B v n xs r hr0 hr1 w hown hlen hBw
end Go.Proofs
end
section
namespace Go.Proofs.YtbpiahpkbapijaaDoor.J
open Go.RowKit Go.Proofs.YtbpiahpkbapijaaDoorW.PrintWords Go.Proofs.YtbpiahpkbapijaaDoorW.PrintLast Go.Proofs.YtbpiahpkbapijaaDoorW.PrintMore
set_option linter.unusedVariables false
set_option linter.unusedSimpArgs false
structure JS where
 (at_ op : Int) (out : ByteArray)
abbrev JR (α : Type) := Except (Int × Int) α
namespace Js
def isIn (l : ByteArray) (c : Int) : Bool := decide (0 ≤ Lib.indexByte l.data.toList c.toNat.toUInt8)
abbrev wBlank : ByteArray := ⟨#[32, 9, 10, 13]⟩
def blank (c : Int) : Bool := isIn wBlank c
def skipN (t : ByteArray) : Nat → Int → Int
 | 0, a => a
 | k + 1, a => if a < (t.size : Int) then (if blank (bt t a) = true then skipN t k (a + 1) else a) else a
def skip (t : ByteArray) (a : Int) : Int := skipN t ((t.size : Int) - a).toNat a
theorem skip_eq (t : ByteArray) (a : Int) : skip t a = if a < (t.size : Int) then (if blank (bt t a) = true then skip t (a + 1) else a) else a := by
 unfold skip
 by_cases h : a < (t.size : Int)
 ·have e : ((t.size : Int) - a).toNat = ((t.size : Int) - (a + 1)).toNat + 1 := by omega
  rw [e, skipN, if_pos h]
 ·have e : ((t.size : Int) - a).toNat = 0 := by omega
  rw [e, skipN, if_neg h]
theorem skip_bound (t : ByteArray) : ∀ (n : Nat) (a : Int), ((t.size : Int) - a).toNat = n → a ≤ (t.size : Int) → a ≤ skip t a ∧ skip t a ≤ (t.size : Int)
 | 0, a, h, ha => by rw [skip_eq, if_neg (by omega)]; omega
 | n + 1, a, h, ha => by
  rw [skip_eq, if_pos (by omega)]
  split
  ·have := skip_bound t n (a + 1) (by omega) (by omega); omega
  ·omega
def digit (c : Int) : Bool := decide (48 ≤ c) && decide (c ≤ 57)
def runN (t : ByteArray) : Nat → Int → Int
 | 0, a => a
 | k + 1, a => if a < (t.size : Int) then (if digit (bt t a) = true then runN t k (a + 1) else a) else a
def run (t : ByteArray) (a : Int) : Int := runN t ((t.size : Int) - a).toNat a
theorem run_eq (t : ByteArray) (a : Int) : run t a = if a < (t.size : Int) then (if digit (bt t a) = true then run t (a + 1) else a) else a := by
 unfold run
 by_cases h : a < (t.size : Int)
 ·have e : ((t.size : Int) - a).toNat = ((t.size : Int) - (a + 1)).toNat + 1 := by omega
  rw [e, runN, if_pos h]
 ·have e : ((t.size : Int) - a).toNat = 0 := by omega
  rw [e, runN, if_neg h]
theorem run_bound (t : ByteArray) : ∀ (n : Nat) (a : Int), ((t.size : Int) - a).toNat = n → a ≤ run t a ∧ (a ≤ (t.size : Int) → run t a ≤ (t.size : Int))
 | 0, a, h => by rw [run_eq, if_neg (by omega)]; omega
 | n + 1, a, h => by
  rw [run_eq, if_pos (by omega)]
  split
  ·have := run_bound t n (a + 1) (by omega); omega
  ·omega
def tk (t : ByteArray) (n : Int) (s : JS) : JS := ⟨s.at_ + n, s.op, s.out ++ t.extract s.at_.toNat (s.at_ + n).toNat⟩
def peek (t : ByteArray) (s : JS) : JR (Int × JS) := if skip t s.at_ = (t.size : Int) then .error (120, (t.size : Int)) else .ok (bt t (skip t s.at_), ⟨skip t s.at_, s.op, s.out⟩)
def sign (t : ByteArray) (l : ByteArray) (s : JS) : JR (Int × JS) :=
 match peek t s with
 | .error x => .error x
 | .ok (c, s1) => if isIn l c = true then .ok (c, tk t 1 s1) else .error (120, s1.at_)
def bracket (t : ByteArray) (s : JS) : JR JS := if s.op = 200 then .error (4, s.at_) else .ok (tk t 1 ⟨s.at_, s.op + 1, s.out⟩)
def is_ (t : ByteArray) (a : Int) (l : ByteArray) : Bool := decide (a < (t.size : Int)) && isIn l (bt t a)
def dot (t : ByteArray) (e : Int) : Int := if is_ t e ⟨#[46]⟩ = true then (if run t (e + 1) - (e + 1) > 0 then e + (1 + (run t (e + 1) - (e + 1))) else e) else e
def expk (t : ByteArray) (k e : Int) : Int := if run t k - k > 0 then k + (run t k - k) else e
def expo (t : ByteArray) (e : Int) : Int := if is_ t e ⟨#[101, 69]⟩ = true then (if is_ t (e + 1) ⟨#[43, 45]⟩ = true then expk t (e + 1 + 1) e else expk t (e + 1) e) else e
def numZ (t : ByteArray) (b : Int) : Int := if bt t b = 48 then b + 1 else b + (run t b - b)
def numA (t : ByteArray) (a : Int) : Int := if is_ t a ⟨#[45]⟩ = true then a + 1 else a
def number (t : ByteArray) (s : JS) : JR JS :=
 if run t (numA t s.at_) - numA t s.at_ = 0 then .error (120, s.at_)
 else .ok (tk t (expo t (dot t (numZ t (numA t s.at_))) - s.at_) s)
def word (t : ByteArray) (x : ByteArray) (s : JS) : JR JS := if Lib.hasPrefix (t.extract s.at_.toNat t.size).data.toList x.data.toList = true then .ok (tk t (x.size : Int) s) else .error (120, s.at_)
def mean (c : Int) : Int := (json_meant.f 10 c).getD 0
def esc (t : ByteArray) (i : Int) : Int × Int := (json_escaped.f 40 (t.extract i.toNat t.size)).getD (0, 0)
def strN (t : ByteArray) : Nat → Int → Int
 | 0, _ => -1
 | k + 1, i =>
  if i ≥ (t.size : Int) then -1 else if bt t i < 32 then -1 else if bt t i = 34 then i else if bt t i ≠ 92 then strN t k (i + 1)
  else if i + 1 < (t.size : Int) ∧ mean (bt t (i + 1)) ≠ 0 then strN t k (i + 2)
  else if (esc t i).2 = 0 then -1 else strN t k (i + (esc t i).2)
def quoted (t : ByteArray) (s : JS) : JR JS :=
 if strN t t.size (s.at_ + 1) < 0 then .error (125, s.at_) else .ok (tk t (strN t t.size (s.at_ + 1) + 1 - s.at_) s)
def shut (s : JS) : JS := ⟨s.at_, s.op - 1, s.out⟩
mutual
def value (t : ByteArray) : Nat → JS → Option (JR JS)
 | 0, _ => none
 | k + 1, s =>
  match peek t s with
  | .error x => some (.error x)
  | .ok (c, s1) =>
   if c = 123 then object t k s1 else if c = 91 then array t k s1 else if c = 34 then some (quoted t s1)
   else if c = 116 then some (word t ⟨#[116, 114, 117, 101]⟩ s1) else if c = 102 then some (word t ⟨#[102, 97, 108, 115, 101]⟩ s1) else if c = 110 then some (word t ⟨#[110, 117, 108, 108]⟩ s1)
   else if c = 45 ∨ (48 ≤ c ∧ c ≤ 57) then some (number t s1) else some (.error (120, s1.at_))
def array (t : ByteArray) : Nat → JS → Option (JR JS)
 | 0, _ => none
 | k + 1, s =>
  match bracket t s with
  | .error x => some (.error x)
  | .ok s1 =>
   match peek t s1 with
   | .error x => some (.error x)
   | .ok (c, s2) => if c = 93 then some (.ok (shut (tk t 1 s2))) else elems t k s2
def elems (t : ByteArray) : Nat → JS → Option (JR JS)
 | 0, _ => none
 | k + 1, s =>
  match value t k s with
  | none => none
  | some (.error x) => some (.error x)
  | some (.ok s1) =>
   match sign t ⟨#[44, 93]⟩ s1 with
   | .error x => some (.error x)
   | .ok (c, s2) => if c = 44 then elems t k s2 else some (.ok (shut s2))
def object (t : ByteArray) : Nat → JS → Option (JR JS)
 | 0, _ => none
 | k + 1, s =>
  match bracket t s with
  | .error x => some (.error x)
  | .ok s1 =>
   match peek t s1 with
   | .error x => some (.error x)
   | .ok (c, s2) => if c = 125 then some (.ok (shut (tk t 1 s2))) else members t k s2
def members (t : ByteArray) : Nat → JS → Option (JR JS)
 | 0, _ => none
 | k + 1, s =>
  match peek t s with
  | .error x => some (.error x)
  | .ok (c, s1) =>
   if c = 34 then
    match quoted t s1 with
    | .error x => some (.error x)
    | .ok s2 =>
     match sign t ⟨#[58]⟩ s2 with
     | .error x => some (.error x)
     | .ok (_, s3) =>
      match value t k s3 with
      | none => none
      | some (.error x) => some (.error x)
      | some (.ok s4) =>
       match sign t ⟨#[44, 125]⟩ s4 with
       | .error x => some (.error x)
       | .ok (c, s5) => if c = 44 then members t k s5 else some (.ok (shut s5))
   else some (.error (120, s1.at_))
end
def whole (t : ByteArray) (k : Nat) : Option (JR ByteArray) :=
 if (t.size : Int) > 67108864 then some (.error (2, 0)) else
  match wire_Utf8.f k t with
  | none => none
  | some u =>
   if u ≥ 0 then some (.error (125, u)) else
    match value t k ⟨0, 0, ⟨#[]⟩⟩ with
    | none => none
    | some (.error x) => some (.error x)
    | some (.ok s) => if skip t s.at_ < (t.size : Int) then some (.error (120, skip t s.at_)) else some (.ok s.out)
end Js
structure Ch (S : Nat → Prop) (w w' : World) : Prop where
 os : w'.os = w.os
 tape : w'.tape = w.tape
 output : w'.output = w.output
 size : w.heap.size ≤ w'.heap.size
 block : ∀ k, k < w.heap.size → ¬ S k → w'.heap[k]? = w.heap[k]?
namespace Ch
variable {S S' : Nat → Prop} {w w1 w2 : World}
theorem refl (S : Nat → Prop) (w : World) : Ch S w w := ⟨rfl, rfl, rfl, Nat.le_refl _, fun _ _ _ => rfl⟩
theorem trans (h : Ch S w w1) (k : Ch S w1 w2) : Ch S w w2 := ⟨k.os.trans h.os, k.tape.trans h.tape, k.output.trans h.output, Nat.le_trans h.size k.size, fun i hi hs => (k.block i (Nat.lt_of_lt_of_le hi h.size) hs).trans (h.block i hi hs)⟩
theorem mono (h : Ch S w w1) (hs : ∀ k, k < w.heap.size → S k → S' k) : Ch S' w w1 := ⟨h.os, h.tape, h.output, h.size, fun i hi hn => h.block i hi (fun q => hn (hs i hi q))⟩
theorem of_below (h : Below w.heap.size w w1) (S : Nat → Prop) : Ch S w w1 := ⟨h.os, h.tape, h.output, h.size, fun i hi _ => h.block i hi⟩
theorem below (h : Ch S w w1) {B : Nat} (hs : ∀ k, k < B → ¬ S k) (hB : B ≤ w.heap.size) : Below B w w1 := ⟨h.os, h.tape, h.output, h.size, fun i hi => h.block i (Nat.lt_of_lt_of_le hi hB) (hs i hi)⟩
theorem alloc (h : Ch S w w1) (o : Obj) : Ch S w (w1.alloc o) := h.trans (of_below (zA (Below.refl _ _) o) S)
theorem drewN (h : Ch S w w1) (n : Nat) : Ch S w (w1.drewN n) := h.trans (of_below (zN (Below.refl _ _) n) S)
theorem drew (h : Ch S w w1) : Ch S w w1.drew := h.trans (of_below (below_drew (Below.refl _ _)) S)
theorem set (h : Ch S w w1) {g j : Nat} (hg : g < w.heap.size → S g) (u : Value) : Ch S w (w1.setCell ⟨g, j, none⟩ u) := by
 refine ⟨h.os, h.tape, h.output, by have := h.size; simpa [World.setCell] using this, fun i hi hs => ?_⟩
 rw [Below.heap_setCell w1 ⟨g, j, none⟩ u i (fun e => hs (by rw [e] at hi ⊢; exact hg hi))]
 exact h.block i hi hs
theorem then_below (h : Ch S w w1) (k : Below w1.heap.size w1 w2) : Ch S w w2 := h.trans (of_below k S)
theorem then_grown (h : Ch S w w1) {row : Option Nat} (k : w1.grownBy w2 row) (hr : ∀ i, i < w.heap.size → row = some i → S i) : Ch S w w2 :=
 ⟨k.os.trans h.os, k.tape.trans h.tape, k.output.trans h.output, Nat.le_trans h.size k.size, fun i hi hs => (k.block i (Nat.lt_of_lt_of_le hi h.size) (fun e => hs (hr i hi e.symm))).trans (h.block i hi hs)⟩
end Ch
abbrev Fr (w w' : World) : Prop := Nonempty (Below w.heap.size w w')
theorem Fr.out {w w' : World} (h : Fr w w') : Below w.heap.size w w' := h.elim id
instance (w : World) : Fr w w := ⟨Below.refl _ _⟩
instance (w w1 : World) (o : Obj) [h : Fr w w1] : Fr w (w1.alloc o) := ⟨zA (Fr.out h) o⟩
instance (w w1 : World) (n : Nat) [h : Fr w w1] : Fr w (w1.drewN n) := ⟨zN (Fr.out h) n⟩
instance (w w1 : World) [h : Fr w w1] : Fr w w1.drew := ⟨below_drew (Fr.out h)⟩
theorem Ch.fr {S : Nat → Prop} {w w1 w2 : World} (h : Ch S w w1) [k : Fr w1 w2] : Ch S w w2 := h.then_below (Fr.out k)
theorem bel {w w' : World} [h : Fr w w'] : Below w.heap.size w w' := Fr.out h
theorem Ch.cell {S : Nat → Prop} {w w' : World} (h : Ch S w w') {k : Nat} (hk : ¬ S k) (hl : k < w.heap.size) (j : Nat) : w'.cell? ⟨k, j, none⟩ = w.cell? ⟨k, j, none⟩ := World.cell?_of_block (h.block k hl hk)
theorem Ch.frozen {S : Nat → Prop} {w w' : World} (h : Ch S w w') {k : Nat} (hk : ¬ S k) (hl : k < w.heap.size) (j : Nat) : w'.frozen? ⟨k, j, none⟩ = w.frozen? ⟨k, j, none⟩ := World.frozen?_of_block (h.block k hl hk)
theorem box_ch {S : Nat → Prop} {W0 w5 : World} {cs : Array Value} {T : Nat} (hC : Ch S (W0.alloc (.cells cs T)) w5) (hS : ¬ S W0.heap.size) : w5.heap[W0.heap.size]? = some (.cells cs T (0, 0)) := by
 rw [hC.block W0.heap.size (by simp) hS]
 exact blk_new W0 _
theorem pcell {W : World} {b : Nat} {cs : Array Value} {T : Nat} (h : W.heap[b]? = some (.cells cs T (0, 0))) : (∀ j v, cs[j]? = some v → W.cell? ⟨b, j, none⟩ = some v) ∧ (∀ j, W.frozen? ⟨b, j, none⟩ = false) ∧ b < W.heap.size :=
 ⟨fun j v hj => by simpa [World.cell?, h] using hj, fun j => by simp [World.frozen?, h], (Array.getElem?_eq_some_iff.1 h).1⟩
theorem pset {W : World} {b : Nat} {cs : Array Value} {T : Nat} (h : W.heap[b]? = some (.cells cs T (0, 0))) (j : Nat) (v : Value) : (W.setCell ⟨b, j, none⟩ v).heap[b]? = some (.cells (cs.setIfInBounds j v) T (0, 0)) := by
 simp [World.setCell, Array.getElem?_modify, h]
end Go.Proofs.YtbpiahpkbapijaaDoor.J
end
