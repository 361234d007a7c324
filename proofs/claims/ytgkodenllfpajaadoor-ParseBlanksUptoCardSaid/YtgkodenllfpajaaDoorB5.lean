/- Lemmas and walks for the claim; no condition beyond what each states. -/
import Derived.Test.YtgkodenllfpajaaDoorB4
import Derived.WalkLawsBesides
import Derived.Recover
section
namespace Go.Proofs.YtgkodenllfpajaaDoor.A
open Go.RowKit Go.Proofs.YtgkodenllfpajaaDoorW.PrintWords Go.Proofs.YtgkodenllfpajaaDoorW.PrintLast Go.Proofs.YtgkodenllfpajaaDoorW.PrintMore
set_option linter.unusedVariables false
set_option linter.unusedSimpArgs false
abbrev PTok := S42
abbrev PField := S44
abbrev PRange := S116
abbrev PValue := S79
abbrev PEnum := S77
abbrev PMsg := S48
structure PFile where
 f0 : ByteArray
 f1 : List ByteArray
 f2 : List PMsg
 f3 : List PEnum
structure PS where
 left : List PTok
 decls : Int
 nest : Int
abbrev PR (α : Type) := Except (Int × Int) (α × PS)
namespace Pm
def wGroup : ByteArray := ⟨#[103, 114, 111, 117, 112]⟩
def wRepeated : ByteArray := ⟨#[114, 101, 112, 101, 97, 116, 101, 100]⟩
def wLt : ByteArray := ⟨#[60]⟩
def wComma : ByteArray := ⟨#[44]⟩
def wGt : ByteArray := ⟨#[62]⟩
def wRbrace : ByteArray := ⟨#[125]⟩
def wLbrace : ByteArray := ⟨#[123]⟩
def wSemi : ByteArray := ⟨#[59]⟩
def wMinus : ByteArray := ⟨#[45]⟩
def wTo : ByteArray := ⟨#[116, 111]⟩
def wMax : ByteArray := ⟨#[109, 97, 120]⟩
def wReserved : ByteArray := ⟨#[114, 101, 115, 101, 114, 118, 101, 100]⟩
def wOption : ByteArray := ⟨#[111, 112, 116, 105, 111, 110]⟩
def wEq : ByteArray := ⟨#[61]⟩
def wExtend : ByteArray := ⟨#[101, 120, 116, 101, 110, 100]⟩
def wExtensions : ByteArray := ⟨#[101, 120, 116, 101, 110, 115, 105, 111, 110, 115]⟩
def wRequired : ByteArray := ⟨#[114, 101, 113, 117, 105, 114, 101, 100]⟩
def wMap : ByteArray := ⟨#[109, 97, 112]⟩
def wMessage : ByteArray := ⟨#[109, 101, 115, 115, 97, 103, 101]⟩
def wEnum : ByteArray := ⟨#[101, 110, 117, 109]⟩
def wOneof : ByteArray := ⟨#[111, 110, 101, 111, 102]⟩
def wOptional : ByteArray := ⟨#[111, 112, 116, 105, 111, 110, 97, 108]⟩
def wPublic : ByteArray := ⟨#[112, 117, 98, 108, 105, 99]⟩
def wWeak : ByteArray := ⟨#[119, 101, 97, 107]⟩
def wPackage : ByteArray := ⟨#[112, 97, 99, 107, 97, 103, 101]⟩
def wImport : ByteArray := ⟨#[105, 109, 112, 111, 114, 116]⟩
def wService : ByteArray := ⟨#[115, 101, 114, 118, 105, 99, 101]⟩
def wSyntax : ByteArray := ⟨#[115, 121, 110, 116, 97, 120]⟩
def wProto : ByteArray := ⟨#[112, 114, 111, 116, 111, 51]⟩
def be {α β : Type} (x : PR α) (f : α → PS → PR β) : PR β := match x with | .error r => .error r | .ok (a, s) => f a s
def bo {α β : Type} (x : Option (PR α)) (f : α → PS → Option (PR β)) : Option (PR β) := match x with | none => none | some (.error r) => some (.error r) | some (.ok (a, s)) => f a s
def now (e : Int) (s : PS) : PTok := s.left.headD ⟨5, e, ⟨#[]⟩⟩
def nxt (s : PS) : PS := { s with left := s.left.tail }
def fail {α : Type} (e er : Int) (s : PS) : PR α := .error (er, (now e s).f1)
def unl (e : Int) (right : Bool) (s : PS) : PR Unit := if right = true then .ok ((), s) else if (now e s).f0 = 5 then fail e 51 s else fail e 50 s
def is (e : Int) (kind : Int) (text : ByteArray) (s : PS) : Bool := (now e s).f0 == kind && ((now e s).f2.toList == text.toList)
def sign (e : Int) (t : ByteArray) (s : PS) : PR Unit := be (unl e (is e 4 t s) s) fun _ s => .ok ((), nxt s)
def counts (e : Int) (s : PS) : PR Unit := if s.decls = 4096 then fail e 54 s else .ok ((), { s with decls := s.decls + 1 })
end Pm
end Go.Proofs.YtgkodenllfpajaaDoor.A
end
section
namespace Go.Proofs.YtgkodenllfpajaaDoor.A
open Go.RowKit Go.Proofs.YtgkodenllfpajaaDoorW.PrintWords Go.Proofs.YtgkodenllfpajaaDoorW.PrintLast Go.Proofs.YtgkodenllfpajaaDoorW.PrintMore
set_option linter.unusedVariables false
set_option linter.unusedSimpArgs false
namespace Pm
def named (k : Nat) (e : Int) (s : PS) : Option (PR ByteArray) :=
 bo (some (unl e ((now e s).f0 == 1) s)) fun _ s => if ((now e s).f2.size : Int) > 255 then some (fail e 2 s) else
  (scan_Ident.f k (now e s).f2).bind fun ok => bo (some (unl e ok s)) fun _ s => some (.ok ((now e s).f2, s))
def name (k : Nat) (e : Int) (s : PS) : Option (PR ByteArray) := bo (named k e s) fun a s => some (.ok (a, nxt s))
def text (k : Nat) (e : Int) (may : ByteArray → Option Int) (s : PS) : Option (PR ByteArray) :=
 bo (some (unl e ((now e s).f0 == 3) s)) fun _ s => (scan_Unquote.f k (now e s).f2).bind fun r =>
  if r.2 = 0 then (may r.1).bind fun m => if m = 0 then some (.ok (r.1, s)) else some (fail e m s) else some (fail e r.2 s)
def number (k : Nat) (e : Int) (minus : Bool) (s : PS) : Option (PR Int) :=
 bo (some (unl e ((now e s).f0 == 2) s)) fun _ s => (scan_Number.f k (now e s).f2).bind fun r =>
  if r.2 = 0 then (if r.1 > (if minus = true then 2147483648 else 2147483647) then some (fail e 55 s) else some (.ok ((if minus = true then -r.1 else r.1), s))) else some (fail e r.2 s)
def dot : ByteArray := ⟨#[46]⟩
def namesL (e at_ : Int) : Nat → Bool → ByteArray → PS → Option (PR ByteArray)
 | 0, _, _, _ => none
 | k + 1, counted, t, s => bo (named k e s) fun n s => bo (some (if counted = true then counts e s else .ok ((), s))) fun _ s =>
   if t.size + n.size ≤ 140737488355328 then (if is e 4 dot (nxt s) = true then (if t.size + n.size + 1 ≤ 140737488355328 then namesL e at_ k false (t ++ n ++ dot) (nxt (nxt s)) else none)
    else (if ((t ++ n).size : Int) > 255 then some (.error (2, at_)) else some (.ok (t ++ n, nxt s)))) else none
def names (k : Nat) (e : Int) (dots counted : Bool) (s : PS) : Option (PR ByteArray) :=
 if dots = true ∧ is e 4 dot s = true then bo (some (if counted = true then counts e s else .ok ((), s))) fun _ s' => namesL e (now e s).f1 k false dot (nxt s')
 else namesL e (now e s).f1 k counted ⟨#[]⟩ s
def closes (e : Int) (s : PS) : PR Unit := if is e 4 ⟨#[91]⟩ s = true then fail e 52 s else sign e wSemi s
def rest (k : Nat) (e : Int) (f : PField) (s : PS) : Option (PR PField) :=
 bo (name k e s) fun n s => bo (some (sign e ⟨#[61]⟩ s)) fun _ s => bo (number k e false s) fun v s => bo (some (closes e (nxt s))) fun _ s => some (.ok ({ f with f3 := n, f4 := v }, s))
def field (k : Nat) (e : Int) (f : PField) (counted : Bool) (s : PS) : Option (PR PField) := bo (names k e true counted s) fun t s => rest k e { f with f2 := t } s
def zfield : PField := ⟨0, ⟨#[]⟩, ⟨#[]⟩, ⟨#[]⟩, 0, 0⟩
def labelled (k : Nat) (e : Int) (s : PS) : Option (PR PField) :=
 bo (some (counts e s)) fun _ s => let s1 := nxt s
  if is e 1 wGroup s1 = true then some (fail e 52 s1) else field k e { zfield with f0 := if (now e s).f2.toList = wRepeated.toList then 3 else 2 } false s1
def table (k : Nat) (e : Int) (s : PS) : Option (PR PField) :=
 bo (some (counts e s)) fun _ s => bo (some (sign e wLt (nxt s))) fun _ s => bo (names k e true false s) fun key s => bo (some (sign e wComma s)) fun _ s => bo (names k e true false s) fun t s => bo (some (sign e wGt s)) fun _ s =>
  rest k e { zfield with f0 := 4, f1 := key, f2 := t } s
def oneofL (e n : Int) : Nat → List PField → PS → Option (PR (List PField))
 | 0, _, _ => none
 | k + 1, l, s => if is e 4 wRbrace s = true then some (.ok (l, s)) else if is e 4 wSemi s = true then oneofL e n k l (nxt s) else
   (if (now e s).f0 = 1 then parse_barred.f (now e s).f2 else some false).bind fun bad => if bad = true then some (fail e 52 s) else
    bo (some (unl e ((now e s).f0 == 1 || is e 4 dot s) s)) fun _ s => bo (field k e { zfield with f0 := 1, f5 := n } true s) fun f s => if l.length < 1099511627776 then oneofL e n k (l ++ [f]) s else none
def oneof (k : Nat) (e : Int) (m : PMsg) (s : PS) : Option (PR PMsg) :=
 bo (some (counts e s)) fun _ s => bo (name k e (nxt s)) fun n s => if m.f2.length < 1099511627776 then bo (some (sign e wLbrace s)) fun _ s => bo (oneofL e ((m.f2.length : Int) + 1) k m.f1 s) fun l s =>
  bo (some (unl e (decide ((l.length : Int) > (m.f1.length : Int))) s)) fun _ s => some (.ok ({ m with f1 := l, f2 := m.f2 ++ [n] }, nxt s)) else none
def minus (e : Int) (may : Bool) (s : PS) : Bool × PS := if may = true ∧ is e 4 wMinus s = true then (true, nxt s) else (false, s)
def bound (k : Nat) (e : Int) (neg enum : Bool) (s : PS) : Option (PR Int) := bo (number k e neg s) fun n s => if enum = false ∧ (n < 1 ∨ n > 536870911) then some (fail e 55 s) else some (.ok (n, s))
def row (k : Nat) (e : Int) (enum : Bool) (s : PS) : Option (PR PRange) :=
 let c := decide (enum = true ∧ is e 4 wMinus s = true)
 bo (some (if c = true then counts e s else .ok ((), s))) fun _ s => bo (bound k e (minus e enum s).1 enum (minus e enum s).2) fun n s => bo (some (if c = true then .ok ((), s) else counts e s)) fun _ s =>
  let s1 := nxt s
  if is e 1 wTo s1 = true then (let s2 := nxt s1
   if is e 1 wMax s2 = true then some (.ok (⟨n, if enum = true then 2147483647 else 536870911⟩, nxt s2)) else
    bo (bound k e (minus e enum s2).1 enum (minus e enum s2).2) fun q s => if q < n then some (fail e 55 s) else some (.ok (⟨n, q⟩, nxt s)))
  else some (.ok (⟨n, n⟩, s1))
def mayWord (k : Nat) (t : ByteArray) : Option Int := if (t.size : Int) > 255 then some 2 else (scan_Ident.f k t).bind fun ok => some (if ok = true then 0 else 50)
def reservedL (e : Int) (texts enum : Bool) : Nat → List PRange → List ByteArray → PS → Option (PR (List PRange × List ByteArray))
 | 0, _, _, _ => none
 | k + 1, rows, gone, s =>
  if texts = true then bo (text k e (mayWord k) s) fun t s => bo (some (counts e s)) fun _ s => if gone.length < 1099511627776 then (if is e 4 wComma (nxt s) = true then reservedL e texts enum k rows (gone ++ [t]) (nxt (nxt s)) else some (.ok ((rows, gone ++ [t]), nxt s))) else none
  else bo (row k e enum s) fun r s => if rows.length < 1099511627776 then (if is e 4 wComma s = true then reservedL e texts enum k (rows ++ [r]) gone (nxt s) else some (.ok ((rows ++ [r], gone), s))) else none
def reserved (k : Nat) (e : Int) (enum : Bool) (rows : List PRange) (gone : List ByteArray) (s : PS) : Option (PR (List PRange × List ByteArray)) :=
 let s1 := nxt s
 bo (reservedL e ((now e s1).f0 == 3) enum k rows gone s1) fun r s => bo (some (sign e wSemi s)) fun _ s => some (.ok (r, s))
def enumL (e : Int) : Nat → PEnum → PS → Option (PR PEnum)
 | 0, _, _ => none
 | k + 1, x, s => if is e 4 wRbrace s = true then some (.ok (x, s)) else if is e 4 wSemi s = true then enumL e k x (nxt s)
  else if (now e s).f0 = 1 ∧ (now e s).f2.toList = wReserved.toList then bo (reserved k e true x.f2 x.f3 s) fun r s => enumL e k { x with f2 := r.1, f3 := r.2 } s
  else if (now e s).f0 = 1 ∧ (now e s).f2.toList = wOption.toList then some (fail e 52 s)
  else bo (named k e s) fun n s => bo (some (counts e s)) fun _ s => bo (some (sign e wEq (nxt s))) fun _ s => bo (number k e (minus e true s).1 (minus e true s).2) fun v s => bo (some (closes e (nxt s))) fun _ s =>
   if x.f1.length < 1099511627776 then enumL e k { x with f1 := x.f1 ++ [⟨n, v⟩] } s else none
def enum (k : Nat) (e : Int) (s : PS) : Option (PR PEnum) :=
 bo (some (counts e s)) fun _ s => bo (name k e (nxt s)) fun n s => bo (some (sign e wLbrace s)) fun _ s => bo (enumL e k ⟨n, [], [], []⟩ s) fun x s =>
  bo (some (unl e (decide ((x.f1.length : Int) > 0)) s)) fun _ s => some (.ok (x, nxt s))
def refusedM (t : ByteArray) : Bool := t.toList == wOption.toList || t.toList == wExtend.toList || t.toList == wExtensions.toList || t.toList == wGroup.toList || t.toList == wRequired.toList
mutual
def message (e : Int) : Nat → PS → Option (PR PMsg)
 | 0, _ => none
 | k + 1, s => if s.nest = 32 then some (fail e 53 s) else
  bo (some (counts e s)) fun _ s => bo (name k e (nxt { s with nest := s.nest + 1 })) fun n s => bo (some (sign e wLbrace s)) fun _ s => messageL e k ⟨n, [], [], [], [], [], []⟩ s
def messageL (e : Int) : Nat → PMsg → PS → Option (PR PMsg)
 | 0, _, _ => none
 | k + 1, m, s => if is e 4 wRbrace s = true then some (.ok (m, { nxt s with nest := s.nest - 1 })) else bo (member e k m s) fun m s => messageL e k m s
def member (e : Int) : Nat → PMsg → PS → Option (PR PMsg)
 | 0, _, _ => none
 | k + 1, m, s =>
  if is e 4 wSemi s = true then some (.ok (m, nxt s))
  else if is e 1 wMap s = true ∧ 1 < s.left.length ∧ (s.left.getD 1 ⟨0, 0, ⟨#[]⟩⟩).f0 = 4 ∧ (s.left.getD 1 ⟨0, 0, ⟨#[]⟩⟩).f2.toList = wLt.toList then bo (table k e s) fun f s => if m.f1.length < 1099511627776 then some (.ok ({ m with f1 := m.f1 ++ [f] }, s)) else none
  else if (now e s).f0 = 1 ∧ (now e s).f2.toList = wMessage.toList then bo (message e k s) fun x s => if m.f3.length < 549755813888 then some (.ok ({ m with f3 := m.f3 ++ [x] }, s)) else none
  else if (now e s).f0 = 1 ∧ (now e s).f2.toList = wEnum.toList then bo (enum k e s) fun x s => if m.f4.length < 1099511627776 then some (.ok ({ m with f4 := m.f4 ++ [x] }, s)) else none
  else if (now e s).f0 = 1 ∧ (now e s).f2.toList = wOneof.toList then oneof k e m s
  else if (now e s).f0 = 1 ∧ (now e s).f2.toList = wReserved.toList then bo (reserved k e false m.f5 m.f6 s) fun r s => some (.ok ({ m with f5 := r.1, f6 := r.2 }, s))
  else if (now e s).f0 = 1 ∧ ((now e s).f2.toList = wOptional.toList ∨ (now e s).f2.toList = wRepeated.toList) then bo (labelled k e s) fun f s => if m.f1.length < 1099511627776 then some (.ok ({ m with f1 := m.f1 ++ [f] }, s)) else none
  else if (now e s).f0 = 1 ∧ refusedM (now e s).f2 = true then some (fail e 52 s)
  else bo (some (unl e ((now e s).f0 == 1 || is e 4 dot s) s)) fun _ s => bo (field k e { zfield with f0 := 1 } true s) fun f s => if m.f1.length < 1099511627776 then some (.ok ({ m with f1 := m.f1 ++ [f] }, s)) else none
end
def mayProto (t : ByteArray) : Option Int := some (if t.toList = wProto.toList then 0 else 50)
def mayImport (t : ByteArray) : Option Int := some (if (t.size : Int) > 255 then 2 else if t.toList = ([] : List UInt8) then 50 else 0)
def zfile : PFile := ⟨⟨#[]⟩, [], [], []⟩
def endOf (l : List PTok) : Int := match l.getLast? with | none => 0 | some t => wrap64 (t.f1 + (t.f2.size : Int))
end Pm
end Go.Proofs.YtgkodenllfpajaaDoor.A
end
section
namespace Go.Proofs.YtgkodenllfpajaaDoor.A
open Go.RowKit Go.Proofs.YtgkodenllfpajaaDoorW.PrintWords Go.Proofs.YtgkodenllfpajaaDoorW.PrintLast Go.Proofs.YtgkodenllfpajaaDoorW.PrintMore
set_option linter.unusedVariables false
set_option linter.unusedSimpArgs false
structure Ch (S : Nat → Prop) (w w' : World) : Prop where
 os : w'.os = w.os
 tape : w'.tape = w.tape
 output : w'.output = w.output
 size : w.heap.size ≤ w'.heap.size
 block : ∀ k, k < w.heap.size → ¬ S k → w'.heap[k]? = w.heap[k]?
namespace Ch
variable {S S' : Nat → Prop} {w w1 w2 : World}
theorem refl (S : Nat → Prop) (w : World) : Ch S w w := ⟨rfl, rfl, rfl, Nat.le_refl _, fun _ _ _ => rfl⟩
theorem trans (h : Ch S w w1) (k : Ch S w1 w2) : Ch S w w2 := ⟨k.os.trans h.os, k.tape.trans h.tape, k.output.trans h.output, Nat.le_trans h.size k.size, fun i hi hs => (k.block i (Nat.lt_of_lt_of_le hi h.size) hs).trans (h.block i hi hs)⟩
theorem mono (h : Ch S w w1) (hs : ∀ k, k < w.heap.size → S k → S' k) : Ch S' w w1 := ⟨h.os, h.tape, h.output, h.size, fun i hi hn => h.block i hi (fun q => hn (hs i hi q))⟩
theorem of_below (h : Below w.heap.size w w1) (S : Nat → Prop) : Ch S w w1 := ⟨h.os, h.tape, h.output, h.size, fun i hi _ => h.block i hi⟩
theorem below (h : Ch S w w1) {B : Nat} (hs : ∀ k, k < B → ¬ S k) (hB : B ≤ w.heap.size) : Below B w w1 := ⟨h.os, h.tape, h.output, h.size, fun i hi => h.block i (Nat.lt_of_lt_of_le hi hB) (hs i hi)⟩
theorem alloc (h : Ch S w w1) (o : Obj) : Ch S w (w1.alloc o) := h.trans (of_below (below_alloc (Below.refl _ _) o) S)
theorem drewN (h : Ch S w w1) (n : Nat) : Ch S w (w1.drewN n) := h.trans (of_below (pw_below_drewN (Below.refl _ _) n) S)
theorem drew (h : Ch S w w1) : Ch S w w1.drew := h.trans (of_below (below_drew (Below.refl _ _)) S)
theorem set (h : Ch S w w1) {g j : Nat} (hg : g < w.heap.size → S g) (u : Value) : Ch S w (w1.setCell ⟨g, j, none⟩ u) := by
 refine ⟨h.os, h.tape, h.output, by have := h.size; simpa [World.setCell] using this, fun i hi hs => ?_⟩
 rw [Below.heap_setCell w1 ⟨g, j, none⟩ u i (fun e => hs (by rw [e] at hi ⊢; exact hg hi))]
 exact h.block i hi hs
theorem then_below (h : Ch S w w1) (k : Below w1.heap.size w1 w2) : Ch S w w2 := h.trans (of_below k S)
theorem then_grown (h : Ch S w w1) {row : Option Nat} (k : w1.grownBy w2 row) (hr : ∀ i, i < w.heap.size → row = some i → S i) : Ch S w w2 :=
 ⟨k.os.trans h.os, k.tape.trans h.tape, k.output.trans h.output, Nat.le_trans h.size k.size, fun i hi hs => (k.block i (Nat.lt_of_lt_of_le hi h.size) (fun e => hs (hr i hi e.symm))).trans (h.block i hi hs)⟩
end Ch
abbrev Fr (w w' : World) : Prop := Nonempty (Below w.heap.size w w')
theorem Fr.out {w w' : World} (h : Fr w w') : Below w.heap.size w w' := h.elim id
instance (w : World) : Fr w w := ⟨Below.refl _ _⟩
instance (w w1 : World) (o : Obj) [h : Fr w w1] : Fr w (w1.alloc o) := ⟨below_alloc (Fr.out h) o⟩
instance (w w1 : World) (n : Nat) [h : Fr w w1] : Fr w (w1.drewN n) := ⟨pw_below_drewN (Fr.out h) n⟩
instance (w w1 : World) [h : Fr w w1] : Fr w w1.drew := ⟨below_drew (Fr.out h)⟩
theorem Ch.fr {S : Nat → Prop} {w w1 w2 : World} (h : Ch S w w1) [k : Fr w1 w2] : Ch S w w2 := h.then_below (Fr.out k)
theorem bel {w w' : World} [h : Fr w w'] : Below w.heap.size w w' := Fr.out h
theorem LaidW.ch {S : Nat → Prop} {w w' : World} (h : LaidW w) (hc : Ch S w w') (h0 : ¬ S 0) (h1 : ¬ S 1) : LaidW w' := by
 obtain ⟨⟨t, fr, h⟩, ⟨m, hm⟩⟩ := h
 have hl := (Array.getElem?_eq_some_iff.1 h).1
 have hl1 := World.block_lt_of_cell? w ⟨1, 0, none⟩ hm
 exact ⟨⟨t, fr, (hc.block 0 hl h0).trans h⟩, ⟨m, (World.cell?_of_block (hc.block 1 hl1 h1)).trans hm⟩⟩
theorem Ch.cell {S : Nat → Prop} {w w' : World} (h : Ch S w w') {k : Nat} (hk : ¬ S k) (hl : k < w.heap.size) (j : Nat) : w'.cell? ⟨k, j, none⟩ = w.cell? ⟨k, j, none⟩ := World.cell?_of_block (h.block k hl hk)
theorem Ch.frozen {S : Nat → Prop} {w w' : World} (h : Ch S w w') {k : Nat} (hk : ¬ S k) (hl : k < w.heap.size) (j : Nat) : w'.frozen? ⟨k, j, none⟩ = w.frozen? ⟨k, j, none⟩ := World.frozen?_of_block (h.block k hl hk)
theorem box_ch {S : Nat → Prop} {W0 w5 : World} {cs : Array Value} {T : Nat} (hC : Ch S (W0.alloc (.cells cs T)) w5) (hS : ¬ S W0.heap.size) : w5.heap[W0.heap.size]? = some (.cells cs T (0, 0)) := by
 rw [hC.block W0.heap.size (by simp) hS]
 exact blk_new W0 _
structure PFix where
 (B : Nat) (e : Int) (p0 p1 p2 p3 : Value) (pk : Bool) (t0 t1 t2 : Value)
def pcells (A : Option Addr) (n c : Nat) (X : PFix) (d ne : Int) : Array Value := #[.slice A n c, .int .i64 X.e, X.p0, X.p1, X.p2, X.p3, .bool X.pk, .int .i64 d, .int .i64 ne, X.t0, X.t1, X.t2]
def PAt (b : Nat) (X : PFix) (W : World) (s : PS) : Prop :=
 ∃ A c, W.heap[b]? = some (.cells (pcells A s.left.length c X s.decls s.nest) 69 (0, 0)) ∧ s.left.length ≤ c ∧ k42.F W (fun k => k < X.B) A s.left.length s.left ∧ X.B ≤ b ∧ (s.left.length ≤ 16384 ∧ (0 ≤ s.decls ∧ s.decls ≤ 4096) ∧ (0 ≤ s.nest ∧ s.nest ≤ 32)) ∧ (LaidW W ∧ 2 ≤ X.B)
theorem PAt.lt {b : Nat} {X : PFix} {W : World} {s : PS} (h : PAt b X W s) : b < W.heap.size := by
 obtain ⟨A, c, h, _⟩ := h
 exact (Array.getElem?_eq_some_iff.1 h).1
theorem PAt.laid {b : Nat} {X : PFix} {W : World} {s : PS} (h : PAt b X W s) : LaidW W := by
 obtain ⟨A, c, _, _, _, _, _, h, _⟩ := h
 exact h
theorem PAt.ch {b : Nat} {X : PFix} {W W' : World} {s : PS} {S : Nat → Prop} (h : PAt b X W s) (hc : Ch S W W') (hb : ¬ S b) (hB : ∀ k, k < X.B → ¬ S k) : PAt b X W' s := by
 have hlt := h.lt
 obtain ⟨A, c, h1, h2, h3, h4⟩ := h
 exact ⟨A, c, (hc.block b hlt hb).trans h1, h2, Kd.F_step h3 (fun k hk hlt => hc.block k hlt (hB k hk)), h4.1, h4.2.1, h4.2.2.1.ch hc (hB 0 (by have := h4.2.2.2; omega)) (hB 1 (by have := h4.2.2.2; omega)), h4.2.2.2⟩
theorem PAt.below {b : Nat} {X : PFix} {W W' : World} {s : PS} (h : PAt b X W s) (hb : Below W.heap.size W W') : PAt b X W' s :=
 h.ch (Ch.of_below hb (fun _ => False)) (fun h => h) (fun _ _ h => h)
theorem PAt.fr {b : Nat} {X : PFix} {W W' : World} {s : PS} (h : PAt b X W s) [k : Fr W W'] : PAt b X W' s := h.below (Fr.out k)
theorem pcell {W : World} {b : Nat} {cs : Array Value} {T : Nat} (h : W.heap[b]? = some (.cells cs T (0, 0))) : (∀ j v, cs[j]? = some v → W.cell? ⟨b, j, none⟩ = some v) ∧ (∀ j, W.frozen? ⟨b, j, none⟩ = false) ∧ b < W.heap.size :=
 ⟨fun j v hj => by simpa [World.cell?, h] using hj, fun j => by simp [World.frozen?, h], (Array.getElem?_eq_some_iff.1 h).1⟩
theorem pcells_at {W : World} {b : Nat} {A : Option Addr} {n c : Nat} {X : PFix} {d ne : Int} {T : Nat} (h : W.heap[b]? = some (.cells (pcells A n c X d ne) T (0, 0))) :
  W.cell? ⟨b, 0, none⟩ = some (.slice A n c) ∧ W.cell? ⟨b, 1, none⟩ = some (.int .i64 X.e) ∧ W.cell? ⟨b, 7, none⟩ = some (.int .i64 d) ∧ W.cell? ⟨b, 8, none⟩ = some (.int .i64 ne) ∧ W.cell? ⟨b, 10, none⟩ = some X.t1 ∧ W.cell? ⟨b, 11, none⟩ = some X.t2 ∧ (∀ j, W.frozen? ⟨b, j, none⟩ = false) ∧ b < W.heap.size :=
 have g := pcell h
 ⟨g.1 0 _ rfl, g.1 1 _ rfl, g.1 7 _ rfl, g.1 8 _ rfl, g.1 10 _ rfl, g.1 11 _ rfl, g.2.1, g.2.2⟩
theorem pset {W : World} {b : Nat} {cs : Array Value} {T : Nat} (h : W.heap[b]? = some (.cells cs T (0, 0))) (j : Nat) (v : Value) : (W.setCell ⟨b, j, none⟩ v).heap[b]? = some (.cells (cs.setIfInBounds j v) T (0, 0)) := by
 simp [World.setCell, Array.getElem?_modify, h]
theorem tok_head {W : World} {A : Option Addr} {t : PTok} {l : List PTok} (h : Kd.C k42 W A (t :: l).length (t :: l)) : ∃ ad, A = some ad ∧ (∀ o, (W.alloc o).cell? ad = some (.int .i64 t.f0)) ∧ (∀ o, (W.alloc o).cell? ⟨ad.block, ad.off + 1, none⟩ = some (.int .i64 t.f1)) ∧ (∀ o, (W.alloc o).cell? ⟨ad.block, ad.off + 2, none⟩ = some (.string t.f2)) := by
 obtain ⟨ad, e0, a0, a1, a2⟩ := at_T42 h 0 (by omega) (by simp)
 have e : ad.add (Int.toNat 0 * 3) = ad := by
  simp [Addr.add]
 have r : rd_T42 (t :: l) 0 = t := rfl
 rw [e, r] at a0 a1 a2
 have hl : ad.block < W.heap.size := World.block_lt_of_cell? W ad a0
 exact ⟨ad, e0, fun o => (World.cell?_alloc_lt (w := W) (o := o) (a := ad) hl).trans a0, fun o => (World.cell?_alloc_lt (w := W) (o := o) (a := ⟨ad.block, ad.off + 1, none⟩) hl).trans a1, fun o => (World.cell?_alloc_lt (w := W) (o := o) (a := ⟨ad.block, ad.off + 2, none⟩) hl).trans a2⟩
set_option maxHeartbeats 1000000 in
set_option maxRecDepth 100000 in
theorem now_calls (b : Nat) (X : PFix) (s : PS) (W : World) (h : PAt b X W s) :
  Calls Tryd.prog 58 #[.pointer (some ⟨b, 0, none⟩)] W fun r w' => r = .returned (.agg #[.int .i64 (Pm.now X.e s).f0, .int .i64 (Pm.now X.e s).f1, .string (Pm.now X.e s).f2]) ∧ Below W.heap.size W w' := by
 obtain ⟨A, c, h1, h2, h3, h4, h5, _⟩ := h
 obtain ⟨c0, c1, _, _, _, _, _, _⟩ := pcells_at h1
 clear h1
 obtain ⟨l, d, ne⟩ := s
 cases l with
 | nil =>
  go_enter Tryd.func58, Tryd.ntmps58
  go_wp2
  exact bodyPost_ret (v := .agg #[.int .i64 5, .int .i64 X.e, .string ⟨#[]⟩]) (by simp [results, Tryd.results58, go_sem]) rfl ⟨rfl, (Below.refl _ _).alloc (Nat.le_refl _) _⟩
 | cons t l =>
  obtain ⟨ad, e0, a0, a1, a2⟩ := tok_head (Kd.F_now h3)
  subst e0
  clear h3
  go_enter Tryd.func58, Tryd.ntmps58
  go_wp2
  exact bodyPost_ret (v := .agg #[.int .i64 t.f0, .int .i64 t.f1, .string t.f2]) (by simp [results, Tryd.results58, go_sem]) rfl ⟨rfl, (Below.refl _ _).alloc (Nat.le_refl _) _⟩
abbrev thrown (er at_ : Int) : Ending := .panicked [{ v := .iface 60 (.agg #[.int .i64 er, .int .i64 at_]), recovered := false }]
theorem fld0 (x y : Int) (z : ByteArray) (w : World) : (Instr.field 42 (.agg #[.int .i64 x, .int .i64 y, .string z]) 0).run Tryd.prog w = .ok (.int .i64 x) w := by kernel_rfl
theorem fld1 (x y : Int) (z : ByteArray) (w : World) : (Instr.field 42 (.agg #[.int .i64 x, .int .i64 y, .string z]) 1).run Tryd.prog w = .ok (.int .i64 y) w := by kernel_rfl
theorem fld2 (x y : Int) (z : ByteArray) (w : World) : (Instr.field 42 (.agg #[.int .i64 x, .int .i64 y, .string z]) 2).run Tryd.prog w = .ok (.string z) w := by kernel_rfl
def PostU {α : Type} (S : Nat → Prop) (b : Nat) (X : PFix) (W : World) (ret : α → Value) (r : PR α) (e : Ending) (w' : World) : Prop :=
 match r with
 | .ok (a, s) => e = .returned (ret a) ∧ PAt b X w' s ∧ Ch S W w'
 | .error x => e = thrown x.1 x.2 ∧ Ch S W w'
def unit_ (_ : Unit) : Value := .tuple #[]
set_option maxHeartbeats 1000000 in
set_option maxRecDepth 100000 in
theorem next_calls (b : Nat) (X : PFix) (s : PS) (W : World) (h : PAt b X W s) :
  Calls Tryd.prog 54 #[.pointer (some ⟨b, 0, none⟩)] W (PostU (· = b) b X W unit_ (.ok ((), Pm.nxt s))) := by
 obtain ⟨A, c, h1, h2, h3, h4, h5, h6⟩ := h
 have H6 := Aside0.mk h6
 clear h6
 obtain ⟨c0, _, _, _, _, _, f0, hlt⟩ := pcells_at h1
 obtain ⟨l, d, ne⟩ := s
 have H1 := Aside0.mk h1
 clear h1
 cases l with
 | nil =>
  have f00 := f0 0
  clear f0
  go_enter Tryd.func54, Tryd.ntmps54
  go_wp2
  go_end0
  exact ⟨rfl, ⟨A, c, H1.out, h2, h3, h4, h5, H6.out⟩, Ch.refl _ _⟩
 | cons t l =>
  have hd := Kd.F_imp h3 (A' := if c = 1 then A else A.map (·.add (1 * 3))) (n' := l.length) (xs' := l) (fun W' hC => Kd.C_drop (m := 1) hC (by simp) h2)
  have f00 := f0 0
  obtain ⟨ad, e0, _⟩ := tok_head (Kd.F_now h3)
  subst e0
  clear f0 h3
  have HD := Aside0.mk hd
  clear hd
  have HS := Aside0.mk (fun v => pset H1.out 0 v)
  simp only [List.length_cons] at h2 c0 h5
  have H5 := Aside0.mk h5
  clear h5
  by_cases hc : c = 1
  ·have el : l.length = 0 := by omega
   obtain rfl : l = [] := List.eq_nil_of_length_eq_zero el
   subst hc
   clear el
   go_enter Tryd.func54, Tryd.ntmps54
   go_wp2
   go_end0
   have hd := HD.out
   simp only [if_true] at hd
   exact ⟨rfl, ⟨_, _, HS.out _, Nat.le_refl _, Kd.F_far hd (fun k hk => Nat.ne_of_lt (Nat.lt_of_lt_of_le hk h4)) _, h4, ⟨by show (0 : Nat) ≤ 16384; omega, H5.out.2⟩, ⟨H6.out.1.ch (Ch.set (S := fun k => k = b) (Ch.refl _ W) (fun _ => rfl) _) (fun e => by have := H6.out.2; omega) (fun e => by have := H6.out.2; omega), H6.out.2⟩⟩, Ch.set (S := fun k => k = b) (Ch.refl _ _) (fun _ => rfl) _⟩
  ·obtain ⟨c, rfl⟩ : ∃ c', c = c' + 1 := ⟨c - 1, by omega⟩
   go_enter Tryd.func54, Tryd.ntmps54
   go_wp2
   go_end0
   have hd := HD.out
   rw [if_neg hc] at hd
   exact ⟨rfl, ⟨_, _, HS.out _, by show l.length ≤ c; omega, Kd.F_far ((show k42.F W (fun k => k < X.B) (some { block := ad.block, off := ad.off + 3 }) l.length l from by simpa [Addr.add] using hd)) (fun k hk => Nat.ne_of_lt (Nat.lt_of_lt_of_le hk h4)) _, h4, ⟨by have := H5.out.1; show l.length ≤ 16384; omega, H5.out.2⟩, ⟨H6.out.1.ch (Ch.set (S := fun k => k = b) (Ch.refl _ W) (fun _ => rfl) _) (fun e => by have := H6.out.2; omega) (fun e => by have := H6.out.2; omega), H6.out.2⟩⟩, Ch.set (S := fun k => k = b) (Ch.refl _ _) (fun _ => rfl) _⟩
set_option maxHeartbeats 1000000 in
set_option maxRecDepth 100000 in
theorem fail_calls (b : Nat) (X : PFix) (er : Int) (s : PS) (W : World) (h : PAt b X W s) :
  Calls Tryd.prog 67 #[.pointer (some ⟨b, 0, none⟩), .int .i64 er] W fun e w' => e = thrown er (Pm.now X.e s).f1 ∧ Below W.heap.size W w' := by
 have HP := Aside0.mk h
 clear h
 have hf := fld1
 go_enter Tryd.func67, Tryd.ntmps67
 go_wp2_with (go_at_call 58; refine (now_calls b X s _ HP.out).mono ?_; rintro e w1 ⟨rfl, hb⟩; have HB := Aside0.mk hb; clear hb)
 exact ⟨rfl, rfl, HB.out⟩
set_option maxHeartbeats 1000000 in
set_option maxRecDepth 100000 in
theorem is_calls (b : Nat) (X : PFix) (kind : Int) (text : ByteArray) (s : PS) (W : World) (h : PAt b X W s) :
  Calls Tryd.prog 53 #[.pointer (some ⟨b, 0, none⟩), .int .i64 kind, .string text] W fun e w' => e = .returned (.bool (Pm.is X.e kind text s)) ∧ Below W.heap.size W w' := by
 have HP := Aside0.mk h
 clear h
 unfold Pm.is
 have hne := (HP.out).lt
 by_cases hk : (Pm.now X.e s).f0 = kind
 ·have hkb : ((Pm.now X.e s).f0 == kind) = true := beq_iff_eq.mpr hk
  have HK := Aside0.mk hkb
  rw [hkb]
  clear hk
  go_enter Tryd.func53, Tryd.ntmps53
  go_wp2_with (go_at_call 58; refine (now_calls b X s _ (PAt.below HP.out (by repeat (first | (with_reducible first | exact Below.refl _ _ | apply below_alloc | apply pw_below_drewN | apply below_drew1 | apply below_drew) | exact Below.refl _ _)))).mono ?_; rintro e w1 ⟨rfl, hb⟩; have HB := Aside0.mk hb; clear hb)
  go_ret
  exact ⟨rfl, below_alloc HB.out _⟩
 ·have hkb : ((Pm.now X.e s).f0 == kind) = false := beq_eq_false_iff_ne.mpr hk
  rw [hkb]
  clear hk
  go_enter Tryd.func53, Tryd.ntmps53
  go_wp2_with (go_at_call 58; refine (now_calls b X s _ (PAt.below HP.out (by repeat (first | (with_reducible first | exact Below.refl _ _ | apply below_alloc | apply pw_below_drewN | apply below_drew1 | apply below_drew) | exact Below.refl _ _)))).mono ?_; rintro e w1 ⟨rfl, hb⟩; have HB := Aside0.mk hb; clear hb)
  go_ret
  exact ⟨rfl, below_alloc HB.out _⟩
set_option maxHeartbeats 1000000 in
set_option maxRecDepth 100000 in
theorem counts_calls (b : Nat) (X : PFix) (s : PS) (W : World) (h : PAt b X W s) :
  Calls Tryd.prog 66 #[.pointer (some ⟨b, 0, none⟩)] W (PostU (· = b) b X W unit_ (Pm.counts X.e s)) := by
 unfold Pm.counts
 obtain ⟨A, c, h1, h2, h3, h4, h5, h6⟩ := id h
 have H6 := Aside0.mk h6
 clear h6
 obtain ⟨_, _, c7, _, _, _, f0, hlt⟩ := pcells_at h1
 have HP := Aside0.mk h
 have H1 := Aside0.mk h1
 have H3 := Aside0.mk h3
 have H5 := Aside0.mk h5
 have hd1 := h5.2.1.1
 have hd2 := h5.2.1.2
 clear h h1 h3 h5
 have f7 := f0 7
 clear f0
 by_cases hd : s.decls = 4096
 ·rw [if_pos hd]
  have hdb : (s.decls == 4096) = true := beq_iff_eq.mpr hd
  clear hd
  go_enter Tryd.func66, Tryd.ntmps66
  go_wp2_with (go_at_call 67; refine (fail_calls b X 54 s _ HP.out).mono ?_; rintro e w1 ⟨rfl, hb⟩; have HB := Aside0.mk hb; clear hb)
  exact ⟨rfl, rfl, Ch.of_below HB.out _⟩
 ·rw [if_neg hd]
  have hdb : (s.decls == 4096) = false := beq_eq_false_iff_ne.mpr hd
  have hlt2 : s.decls < 4096 := by omega
  clear hd
  have HS := Aside0.mk (fun v => pset H1.out 7 v)
  go_enter Tryd.func66, Tryd.ntmps66
  go_wp2
  go_end0
  exact ⟨rfl, ⟨A, c, HS.out _, h2, Kd.F_far H3.out (fun k hk => Nat.ne_of_lt (Nat.lt_of_lt_of_le hk h4)) _, h4, ⟨H5.out.1, ⟨by show 0 ≤ s.decls + 1; omega, by show s.decls + 1 ≤ 4096; omega⟩, H5.out.2.2⟩, ⟨H6.out.1.ch (Ch.set (S := fun k => k = b) (Ch.refl _ W) (fun _ => rfl) _) (fun e => by have := H6.out.2; omega) (fun e => by have := H6.out.2; omega), H6.out.2⟩⟩, Ch.set (S := fun k => k = b) (Ch.refl _ _) (fun _ => rfl) _⟩
set_option maxHeartbeats 1000000 in
set_option maxRecDepth 100000 in
theorem unless_calls (b : Nat) (X : PFix) (right : Bool) (s : PS) (W : World) (h : PAt b X W s) :
  Calls Tryd.prog 52 #[.pointer (some ⟨b, 0, none⟩), .bool right] W (PostU (· = b) b X W unit_ (Pm.unl X.e right s)) := by
 have HP := Aside0.mk h
 have HC := Aside0.mk (Ch.refl (· = b) W)
 clear h
 have hf := fld0
 unfold Pm.unl
 cases right with
 | true =>
  rw [if_pos rfl]
  go_enter Tryd.func52, Tryd.ntmps52
  go_wp2
  refine bodyPost_ret (results_none rfl _ _ _) rfl ?_
  exact ⟨rfl, HP.out, HC.out⟩
 | false =>
  rw [if_neg Bool.false_ne_true]
  by_cases hk : (Pm.now X.e s).f0 = 5
  ·rw [if_pos hk]
   have hkb : ((Pm.now X.e s).f0 == 5) = true := beq_iff_eq.mpr hk
   clear hk
   go_enter Tryd.func52, Tryd.ntmps52
   go_wp2_with (first | (go_at_call 58; refine (now_calls b X s _ HP.out.fr).mono ?_; rintro e w1 ⟨rfl, hb⟩; replace HP := Aside0.mk (PAt.below HP.out.fr hb); replace HC := Aside0.mk (Ch.then_below HC.out.fr hb); clear hb) | (go_at_call 67; refine (fail_calls b X 51 s _ HP.out.fr).mono ?_; rintro e w1 ⟨rfl, hb⟩; have n1_ := Aside0.mk (Ch.then_below HC.out.fr hb); clear HC hb; have HC := n1_; clear n1_))
   exact ⟨rfl, rfl, HC.out⟩
  ·rw [if_neg hk]
   have hkb : ((Pm.now X.e s).f0 == 5) = false := beq_eq_false_iff_ne.mpr hk
   clear hk
   go_enter Tryd.func52, Tryd.ntmps52
   go_wp2_with (first | (go_at_call 58; refine (now_calls b X s _ HP.out.fr).mono ?_; rintro e w1 ⟨rfl, hb⟩; replace HP := Aside0.mk (PAt.below HP.out.fr hb); replace HC := Aside0.mk (Ch.then_below HC.out.fr hb); clear hb) | (go_at_call 67; refine (fail_calls b X 50 s _ HP.out.fr).mono ?_; rintro e w1 ⟨rfl, hb⟩; have n1_ := Aside0.mk (Ch.then_below HC.out.fr hb); clear HC hb; have HC := n1_; clear n1_))
   exact ⟨rfl, rfl, HC.out⟩
set_option maxHeartbeats 1000000 in
set_option maxRecDepth 100000 in
theorem sign_calls (b : Nat) (X : PFix) (t : ByteArray) (s : PS) (W : World) (h : PAt b X W s) :
  Calls Tryd.prog 55 #[.pointer (some ⟨b, 0, none⟩), .string t] W (PostU (· = b) b X W unit_ (Pm.sign X.e t s)) := by
 have HP := Aside0.mk h
 have HC := Aside0.mk (Ch.refl (· = b) W)
 clear h
 unfold Pm.sign Pm.be
 cases hu : Pm.unl X.e (Pm.is X.e 4 t s) s with
 | error x =>
  have HU := Aside0.mk hu
  clear hu
  go_enter Tryd.func55, Tryd.ntmps55
  go_wp2_with (first | (go_at_call 53; refine (is_calls b X 4 t s _ HP.out.fr).mono ?_; rintro e w1 ⟨rfl, hb⟩; replace HP := Aside0.mk (PAt.below HP.out.fr hb); replace HC := Aside0.mk (Ch.then_below HC.out.fr hb); clear hb) | (go_at_call 52; refine (unless_calls b X (Pm.is X.e 4 t s) s _ HP.out.fr).mono ?_; rintro e w1 hU; rw [HU.out] at hU; obtain ⟨rfl, hC⟩ := hU; have n1_ := Aside0.mk (Ch.trans HC.out.fr hC); clear HC hC; have HC := n1_; clear n1_))
  exact ⟨rfl, rfl, HC.out⟩
 | ok a =>
  obtain ⟨⟨⟩, s1⟩ := a
  have HU := Aside0.mk hu
  clear hu
  go_enter Tryd.func55, Tryd.ntmps55
  go_wp2_with (first | (go_at_call 53; refine (is_calls b X 4 t s _ HP.out.fr).mono ?_; rintro e w1 ⟨rfl, hb⟩; replace HP := Aside0.mk (PAt.below HP.out.fr hb); replace HC := Aside0.mk (Ch.then_below HC.out.fr hb); clear hb) | (go_at_call 52; refine (unless_calls b X (Pm.is X.e 4 t s) s _ HP.out.fr).mono ?_; rintro e w1 hU; rw [HU.out] at hU; obtain ⟨rfl, hP, hC⟩ := hU; replace HP := Aside0.mk (hP); replace HC := Aside0.mk (Ch.trans HC.out.fr hC); clear hP hC) | (go_at_call 54; refine (next_calls b X s1 _ HP.out.fr).mono ?_; rintro e w1 ⟨rfl, hP, hC⟩; replace HP := Aside0.mk (hP); replace HC := Aside0.mk (Ch.trans HC.out.fr hC); clear hP hC))
  go_end0
  exact ⟨rfl, HP.out, HC.out⟩
theorem unl_ok {e : Int} {right : Bool} {s s1 : PS} (h : Pm.unl e right s = .ok ((), s1)) : right = true ∧ s = s1 := by
 unfold Pm.unl at h
 cases right with
 | true => rw [if_pos rfl] at h; injection h with h; injection h with _ h; exact ⟨rfl, h⟩
 | false =>
  rw [if_neg Bool.false_ne_true] at h
  split at h <;> cases h
theorem w64 (n : Int) (h : -9223372036854775808 ≤ n ∧ n ≤ 9223372036854775807) : wrap64 n = n := by unfold wrap64; omega
theorem value_range {k : Nat} {c t : Int} (h : scan_value.f k c = some t) (hc : 0 ≤ c ∧ c ≤ 255) : 0 ≤ t ∧ t ≤ 300 := by
 unfold scan_value.f at h
 match k with
 | 0 => simp [scan_value.j0] at h
 | 1 =>
  simp only [scan_value.j0, scan_value.j1] at h
  repeat' split at h
  all_goals first | (cases h; done) | (injection h with h; subst h; omega)
 | k + 2 =>
  simp only [scan_value.j0, scan_value.j1] at h
  repeat' split at h
  all_goals first | (cases h; done) | (injection h with h; subst h; omega)
theorem bt_range (s : ByteArray) (i : Int) : 0 ≤ bt s i ∧ bt s i ≤ 255 := by
 unfold bt
 split
 ·have := (s[i.toNat]'(by assumption)).toNat_lt
  omega
 ·omega
theorem worth_range (k : Nat) : ∀ (x4 : Int) (x5 : ByteArray) (x6 x43 x44 : Int) (r : Int × Bool), x4 = 8 ∨ x4 = 10 ∨ x4 = 16 → 0 ≤ x6 → x6 ≤ 9223372036854775807 → scan_worth.l0 k x4 x5 x6 x43 x44 = some r → 0 ≤ r.1 ∧ r.1 ≤ 9223372036854775807 := by
 induction k with
 | zero => intro x4 x5 x6 x43 x44 r _ _ _ h; simp [scan_worth.l0] at h
 | succ k ih =>
  intro x4 x5 x6 x43 x44 r hb h0 h1 h
  simp only [scan_worth.l0] at h
  split at h
  ·split at h
   ·split at h
    ·obtain ⟨t, ht, h⟩ := Option.bind_eq_some_iff.mp h
     have hv := value_range ht (bt_range _ _)
     split at h
     ·injection h with h; subst h; exact ⟨by decide, by decide⟩
     ·rename_i hlt
      split at h
      ·cases h
      ·split at h
       ·injection h with h; subst h; exact ⟨by decide, by decide⟩
       ·rename_i hle
        have hq : wrap64 (9223372036854775807 - t) = 9223372036854775807 - t := w64 _ (by omega)
        rw [hq] at hle
        have hd : 0 ≤ Int.tdiv (9223372036854775807 - t) x4 ∧ Int.tdiv (9223372036854775807 - t) x4 * x4 ≤ 9223372036854775807 - t ∧ Int.tdiv (9223372036854775807 - t) x4 ≤ 9223372036854775807 := by
         rw [Int.tdiv_eq_ediv_of_nonneg (by omega)]
         rcases hb with rfl | rfl | rfl <;> omega
        rw [w64 (Int.tdiv (9223372036854775807 - t) x4) (by omega)] at hle
        have hm : 0 ≤ x6 * x4 ∧ x6 * x4 + t ≤ 9223372036854775807 := by
         obtain ⟨d0, d1, d2⟩ := hd
         rcases hb with rfl | rfl | rfl <;> omega
        have e1 : wrap64 (x6 * x4) = x6 * x4 := w64 _ (by omega)
        have e2 : wrap64 (x6 * x4 + t) = x6 * x4 + t := w64 _ (by omega)
        rw [e1, e2] at h
        exact ih x4 x5 (x6 * x4 + t) x43 _ r hb (by omega) (by omega) h
    ·cases h
   ·cases h
  ·injection h with h; subst h; exact ⟨h0, h1⟩
theorem worth_j1_range {k : Nat} {x4 : Int} {x5 : ByteArray} {r : Int × Bool} (hb : x4 = 8 ∨ x4 = 10 ∨ x4 = 16) (h : scan_worth.j1 k x4 x5 = some r) : 0 ≤ r.1 ∧ r.1 ≤ 9223372036854775807 := by
 cases k with
 | zero => simp [scan_worth.j1] at h
 | succ k => simp only [scan_worth.j1] at h; exact worth_range k _ _ _ _ _ _ hb (by decide) (by decide) h
theorem worth_j0_range {k : Nat} {x0 x5 : ByteArray} {b : Bool} {r : Int × Bool} (h : scan_worth.j0 k x0 10 x5 b = some r) : 0 ≤ r.1 ∧ r.1 ≤ 9223372036854775807 := by
 cases k with
 | zero => simp [scan_worth.j0] at h
 | succ k =>
  simp only [scan_worth.j0] at h
  repeat' split at h
  all_goals first | (cases h; done) | exact worth_j1_range (by simp) h
theorem number_range {k : Nat} {t : ByteArray} {n er : Int} (h : scan_Number.f k t = some (n, er)) : 0 ≤ n ∧ n ≤ 9223372036854775807 := by
 unfold scan_Number.f at h
 split at h
 ·injection h with h; injection h with h1 h2; subst h1; exact ⟨by decide, by decide⟩
 ·obtain ⟨r, hr, h⟩ := Option.bind_eq_some_iff.mp h
  have hw : 0 ≤ r.1 ∧ r.1 ≤ 9223372036854775807 := by
   unfold scan_worth.f at hr
   repeat' split at hr
   all_goals first | (cases hr; done) | exact worth_j0_range hr
  split at h
  ·injection h with h; injection h with h1 h2; subst h1; exact hw
  ·injection h with h; injection h with h1 h2; subst h1; exact ⟨by decide, by decide⟩
set_option maxHeartbeats 2000000 in
set_option maxRecDepth 100000 in
theorem named_calls (b : Nat) (X : PFix) (k : Nat) (s : PS) (r : PR ByteArray) (hr : Pm.named k X.e s = some r) (W : World) (h : PAt b X W s) :
  Calls Tryd.prog 72 #[.pointer (some ⟨b, 0, none⟩)] W (PostU (· = b) b X W (fun t => .string t) r) := by
 have HP := Aside0.mk h
 have HC := Aside0.mk (Ch.refl (· = b) W)
 clear h
 unfold Pm.named Pm.bo at hr
 cases hu : Pm.unl X.e ((Pm.now X.e s).f0 == 1) s with
 | error x =>
  rw [hu] at hr
  obtain rfl := Option.some.inj hr
  have HU := Aside0.mk hu
  clear hu hr
  go_enter Tryd.func72, Tryd.ntmps72
  go_wp2_with (first | (go_at_call 58; refine (now_calls b X s _ HP.out.fr).mono ?_; rintro e w1 ⟨rfl, hb⟩; replace HP := Aside0.mk (PAt.below HP.out.fr hb); replace HC := Aside0.mk (Ch.then_below HC.out.fr hb); clear hb) | (go_at_call 52; refine (unless_calls b X ((Pm.now X.e s).f0 == 1) s _ HP.out.fr).mono ?_; rintro e w1 hU; rw [HU.out] at hU; obtain ⟨rfl, hC⟩ := hU; have n1_ := Aside0.mk (Ch.trans HC.out.fr hC); clear HC hC; have HC := n1_; clear n1_))
  exact ⟨rfl, rfl, HC.out⟩
 | ok a =>
  obtain ⟨⟨⟩, s1⟩ := a
  obtain ⟨hk1, rfl⟩ := unl_ok hu
  rw [hu] at hr
  dsimp only at hr
  have HU := Aside0.mk hu
  clear hu hk1
  by_cases c : ((Pm.now X.e s).f2.size : Int) > 255
  ·rw [if_pos c] at hr
   obtain rfl := Option.some.inj hr
   have cb : decide ((255 : Int) < ((Pm.now X.e s).f2.size : Int)) = true := decide_eq_true c
   clear c hr
   go_enter Tryd.func72, Tryd.ntmps72
   go_wp2_with fail
   refine (now_calls b X s _ HP.out.fr).mono ?_; rintro e w1 ⟨rfl, hb⟩; replace HP := Aside0.mk (PAt.below HP.out.fr hb); replace HC := Aside0.mk (Ch.then_below HC.out.fr hb); clear hb
   go_wp2_with fail
   refine (unless_calls b X ((Pm.now X.e s).f0 == 1) s _ HP.out.fr).mono ?_; rintro e w2 hU; rw [HU.out] at hU; obtain ⟨rfl, hP, hC⟩ := hU; have hbx := box_ch hC (fun e_ => Nat.ne_of_gt HP.out.lt e_); have HX := Aside0.mk hbx; obtain ⟨bx1, _, bx3⟩ := pcell hbx; have x0 := bx1 0 _ rfl; have x1 := bx1 1 _ rfl; have x2 := bx1 2 _ rfl; have HN := Aside0.mk (fun e_ => Nat.ne_of_gt HP.out.lt e_); clear bx1 hbx; replace HP := Aside0.mk (hP); replace HC := Aside0.mk (Ch.trans HC.out.fr hC); clear hP hC
   go_wp2_with fail
   refine (fail_calls b X 2 s _ HP.out.fr).mono ?_; rintro e w1 ⟨rfl, hb⟩; have n1_ := Aside0.mk (Ch.then_below HC.out.fr hb); clear HC hb; have HC := n1_; clear n1_
   exact ⟨rfl, rfl, HC.out⟩
  ·rw [if_neg c] at hr
   have cb : decide ((255 : Int) < ((Pm.now X.e s).f2.size : Int)) = false := decide_eq_false c
   obtain ⟨ok, hok, hr⟩ := Option.bind_eq_some_iff.mp hr
   have hw : parse_Word.f k (Pm.now X.e s).f2 = some ok := by unfold parse_Word.f; rw [hok]; rfl
   have HW := Aside0.mk hw
   clear c hok hw
   cases hu2 : Pm.unl X.e ok s with
   | error x =>
    rw [hu2] at hr
    obtain rfl := Option.some.inj hr
    have HU2 := Aside0.mk hu2
    clear hu2 hr
    go_enter Tryd.func72, Tryd.ntmps72
    go_wp2_with fail
    refine (now_calls b X s _ HP.out.fr).mono ?_; rintro e w1 ⟨rfl, hb⟩; replace HP := Aside0.mk (PAt.below HP.out.fr hb); replace HC := Aside0.mk (Ch.then_below HC.out.fr hb); clear hb
    go_wp2_with fail
    refine (unless_calls b X ((Pm.now X.e s).f0 == 1) s _ HP.out.fr).mono ?_; rintro e w2 hU; rw [HU.out] at hU; obtain ⟨rfl, hP, hC⟩ := hU; have hbx := box_ch hC (fun e_ => Nat.ne_of_gt HP.out.lt e_); have HX := Aside0.mk hbx; obtain ⟨bx1, _, bx3⟩ := pcell hbx; have x0 := bx1 0 _ rfl; have x1 := bx1 1 _ rfl; have x2 := bx1 2 _ rfl; have HN := Aside0.mk (fun e_ => Nat.ne_of_gt HP.out.lt e_); clear bx1 hbx; replace HP := Aside0.mk (hP); replace HC := Aside0.mk (Ch.trans HC.out.fr hC); clear hP hC
    go_wp2_with fail
    refine (parse_Word.calls k _ _ _ HW.out).mono ?_; rintro e w9 ⟨rfl, ⟨nd, rfl⟩⟩
    go_wp2_with fail
    refine (unless_calls b X ok s _ HP.out.fr).mono ?_; rintro e w1 hU; rw [HU2.out] at hU; obtain ⟨rfl, hC⟩ := hU; have n1_ := Aside0.mk (Ch.trans HC.out.fr hC); clear HC hC; have HC := n1_; clear n1_
    exact ⟨rfl, rfl, HC.out⟩
   | ok a =>
    obtain ⟨⟨⟩, s1⟩ := a
    obtain ⟨rfl, rfl⟩ := unl_ok hu2
    rw [hu2] at hr
    dsimp only at hr
    obtain rfl := Option.some.inj hr
    have HU2 := Aside0.mk hu2
    clear hu2 hr
    go_enter Tryd.func72, Tryd.ntmps72
    go_wp2_with fail
    refine (now_calls b X s _ HP.out.fr).mono ?_; rintro e w1 ⟨rfl, hb⟩; replace HP := Aside0.mk (PAt.below HP.out.fr hb); replace HC := Aside0.mk (Ch.then_below HC.out.fr hb); clear hb
    go_wp2_with fail
    refine (unless_calls b X ((Pm.now X.e s).f0 == 1) s _ HP.out.fr).mono ?_; rintro e w2 hU; rw [HU.out] at hU; obtain ⟨rfl, hP, hC⟩ := hU; have hbx := box_ch hC (fun e_ => Nat.ne_of_gt HP.out.lt e_); have HX := Aside0.mk hbx; obtain ⟨bx1, _, bx3⟩ := pcell hbx; have x0 := bx1 0 _ rfl; have x1 := bx1 1 _ rfl; have x2 := bx1 2 _ rfl; have HN := Aside0.mk (fun e_ => Nat.ne_of_gt HP.out.lt e_); clear bx1 hbx; replace HP := Aside0.mk (hP); replace HC := Aside0.mk (Ch.trans HC.out.fr hC); clear hP hC
    go_wp2_with fail
    refine (parse_Word.calls k _ _ _ HW.out).mono ?_; rintro e w9 ⟨rfl, ⟨nd, rfl⟩⟩
    go_wp2_with fail
    refine (unless_calls b X true s _ HP.out.fr).mono ?_; rintro e w2 hU; rw [HU2.out] at hU; obtain ⟨rfl, hP, hC⟩ := hU; have hbx := (hC.block _ (by simpa using bx3) HN.out).trans HX.out; clear x0 x1 x2 bx3; obtain ⟨bx1, _, bx3⟩ := pcell hbx; have x0 := bx1 0 _ rfl; have x1 := bx1 1 _ rfl; have x2 := bx1 2 _ rfl; clear bx1 hbx; replace HP := Aside0.mk (hP); replace HC := Aside0.mk (Ch.trans HC.out.fr hC); clear hP hC
    go_wp2
    go_ret
    exact ⟨rfl, HP.out, HC.out⟩
set_option maxHeartbeats 2000000 in
set_option maxRecDepth 100000 in
theorem name_calls (b : Nat) (X : PFix) (k : Nat) (s : PS) (r : PR ByteArray) (hr : Pm.name k X.e s = some r) (W : World) (h : PAt b X W s) :
  Calls Tryd.prog 69 #[.pointer (some ⟨b, 0, none⟩)] W (PostU (· = b) b X W (fun t => .string t) r) := by
 have HP := Aside0.mk h
 have HC := Aside0.mk (Ch.refl (· = b) W)
 clear h
 unfold Pm.name Pm.bo at hr
 cases hu : Pm.named k X.e s with
 | none => rw [hu] at hr; cases hr
 | some u =>
  rw [hu] at hr
  have HU := Aside0.mk hu
  clear hu
  cases u with
  | error x =>
   obtain rfl := Option.some.inj hr
   clear hr
   go_enter Tryd.func69, Tryd.ntmps69
   go_wp2_with fail
   refine (named_calls b X k s _ HU.out _ HP.out.fr).mono ?_; rintro e w1 ⟨rfl, hC⟩; have n1_ := Aside0.mk (Ch.trans HC.out.fr hC); clear HC hC; have HC := n1_; clear n1_
   exact ⟨rfl, rfl, HC.out⟩
  | ok a =>
   obtain ⟨t, s1⟩ := a
   obtain rfl := Option.some.inj hr
   clear hr
   go_enter Tryd.func69, Tryd.ntmps69
   go_wp2_with fail
   refine (named_calls b X k s _ HU.out _ HP.out.fr).mono ?_; rintro e w1 ⟨rfl, hP, hC⟩; replace HP := Aside0.mk (hP); replace HC := Aside0.mk (Ch.trans HC.out.fr hC); clear hP hC
   go_wp2_with fail
   refine (next_calls b X s1 _ HP.out.fr).mono ?_; rintro e w1 ⟨rfl, hP, hC⟩; replace HP := Aside0.mk (hP); replace HC := Aside0.mk (Ch.trans HC.out.fr hC); clear hP hC
   go_wp2
   go_ret
   exact ⟨rfl, HP.out, HC.out⟩
set_option maxHeartbeats 2000000 in
set_option maxRecDepth 100000 in
theorem number_calls (b : Nat) (X : PFix) (k : Nat) (minus : Bool) (s : PS) (r : PR Int) (hr : Pm.number k X.e minus s = some r) (W : World) (h : PAt b X W s) :
  Calls Tryd.prog 74 #[.pointer (some ⟨b, 0, none⟩), .bool minus] W (PostU (· = b) b X W (fun n => .int .i64 n) r) := by
 have HP := Aside0.mk h
 have HC := Aside0.mk (Ch.refl (· = b) W)
 clear h
 unfold Pm.number Pm.bo at hr
 cases hu : Pm.unl X.e ((Pm.now X.e s).f0 == 2) s with
 | error x =>
  rw [hu] at hr
  obtain rfl := Option.some.inj hr
  have HU := Aside0.mk hu
  clear hu hr
  go_enter Tryd.func74, Tryd.ntmps74
  go_wp2_with (first | (go_at_call 58; refine (now_calls b X s _ HP.out.fr).mono ?_; rintro e w1 ⟨rfl, hb⟩; replace HP := Aside0.mk (PAt.below HP.out.fr hb); replace HC := Aside0.mk (Ch.then_below HC.out.fr hb); clear hb) | (go_at_call 52; refine (unless_calls b X ((Pm.now X.e s).f0 == 2) s _ HP.out.fr).mono ?_; rintro e w1 hU; rw [HU.out] at hU; obtain ⟨rfl, hC⟩ := hU; have n1_ := Aside0.mk (Ch.trans HC.out.fr hC); clear HC hC; have HC := n1_; clear n1_))
  exact ⟨rfl, rfl, HC.out⟩
 | ok a =>
  obtain ⟨⟨⟩, s1⟩ := a
  obtain ⟨hk1, rfl⟩ := unl_ok hu
  clear hk1
  rw [hu] at hr
  dsimp only at hr
  have HU := Aside0.mk hu
  clear hu
  obtain ⟨⟨n, er⟩, hn, hr⟩ := Option.bind_eq_some_iff.mp hr
  dsimp only at hr
  have HNu := Aside0.mk hn
  have hnr := number_range hn
  have hn1 := hnr.1
  have hn2 := hnr.2
  clear hn hnr
  by_cases c : er = 0
  ·rw [if_pos c] at hr
   subst c
   cases minus with
   | true =>
    rw [if_pos rfl] at hr
    by_cases c2 : n > 2147483648
    ·rw [if_pos c2] at hr
     obtain rfl := Option.some.inj hr
     have cb : decide ((2147483648 : Int) < n) = true := decide_eq_true c2
     clear c2 hr
     go_enter Tryd.func74, Tryd.ntmps74
     go_wp2_with fail
     refine (now_calls b X s _ HP.out.fr).mono ?_; rintro e w1 ⟨rfl, hb⟩; replace HP := Aside0.mk (PAt.below HP.out.fr hb); replace HC := Aside0.mk (Ch.then_below HC.out.fr hb); clear hb
     go_wp2_with fail
     refine (unless_calls b X ((Pm.now X.e s).f0 == 2) s _ HP.out.fr).mono ?_; rintro e w2 hU; rw [HU.out] at hU; obtain ⟨rfl, hP, hC⟩ := hU; have hbx := box_ch hC (fun e_ => Nat.ne_of_gt HP.out.lt e_); have HX := Aside0.mk hbx; obtain ⟨bx1, _, bx3⟩ := pcell hbx; have x0 := bx1 0 _ rfl; have x1 := bx1 1 _ rfl; have x2 := bx1 2 _ rfl; have HN := Aside0.mk (fun e_ => Nat.ne_of_gt HP.out.lt e_); clear bx1 hbx; replace HP := Aside0.mk (hP); replace HC := Aside0.mk (Ch.trans HC.out.fr hC); clear hP hC
     go_wp2_with fail
     refine (scan_Number.calls k _ _ _ _ HNu.out).mono ?_; rintro e w9 ⟨rfl, ⟨nd, rfl⟩⟩
     go_wp2_with fail
     refine (fail_calls b X 55 s _ HP.out.fr).mono ?_; rintro e w1 ⟨rfl, hb⟩; have n1_ := Aside0.mk (Ch.then_below HC.out.fr hb); clear HC hb; have HC := n1_; clear n1_
     exact ⟨rfl, rfl, HC.out⟩
    ·rw [if_neg c2] at hr
     obtain rfl := Option.some.inj hr
     have cb : decide ((2147483648 : Int) < n) = false := decide_eq_false c2
     clear c2 hr
     go_enter Tryd.func74, Tryd.ntmps74
     go_wp2_with fail
     refine (now_calls b X s _ HP.out.fr).mono ?_; rintro e w1 ⟨rfl, hb⟩; replace HP := Aside0.mk (PAt.below HP.out.fr hb); replace HC := Aside0.mk (Ch.then_below HC.out.fr hb); clear hb
     go_wp2_with fail
     refine (unless_calls b X ((Pm.now X.e s).f0 == 2) s _ HP.out.fr).mono ?_; rintro e w2 hU; rw [HU.out] at hU; obtain ⟨rfl, hP, hC⟩ := hU; have hbx := box_ch hC (fun e_ => Nat.ne_of_gt HP.out.lt e_); have HX := Aside0.mk hbx; obtain ⟨bx1, _, bx3⟩ := pcell hbx; have x0 := bx1 0 _ rfl; have x1 := bx1 1 _ rfl; have x2 := bx1 2 _ rfl; have HN := Aside0.mk (fun e_ => Nat.ne_of_gt HP.out.lt e_); clear bx1 hbx; replace HP := Aside0.mk (hP); replace HC := Aside0.mk (Ch.trans HC.out.fr hC); clear hP hC
     go_wp2_with fail
     refine (scan_Number.calls k _ _ _ _ HNu.out).mono ?_; rintro e w9 ⟨rfl, ⟨nd, rfl⟩⟩
     go_wp2
     go_ret
     exact ⟨rfl, HP.out.fr, HC.out.fr⟩
   | false =>
    rw [if_neg Bool.false_ne_true] at hr
    by_cases c2 : n > 2147483647
    ·rw [if_pos c2] at hr
     obtain rfl := Option.some.inj hr
     have cb : decide ((2147483647 : Int) < n) = true := decide_eq_true c2
     clear c2 hr
     go_enter Tryd.func74, Tryd.ntmps74
     go_wp2_with fail
     refine (now_calls b X s _ HP.out.fr).mono ?_; rintro e w1 ⟨rfl, hb⟩; replace HP := Aside0.mk (PAt.below HP.out.fr hb); replace HC := Aside0.mk (Ch.then_below HC.out.fr hb); clear hb
     go_wp2_with fail
     refine (unless_calls b X ((Pm.now X.e s).f0 == 2) s _ HP.out.fr).mono ?_; rintro e w2 hU; rw [HU.out] at hU; obtain ⟨rfl, hP, hC⟩ := hU; have hbx := box_ch hC (fun e_ => Nat.ne_of_gt HP.out.lt e_); have HX := Aside0.mk hbx; obtain ⟨bx1, _, bx3⟩ := pcell hbx; have x0 := bx1 0 _ rfl; have x1 := bx1 1 _ rfl; have x2 := bx1 2 _ rfl; have HN := Aside0.mk (fun e_ => Nat.ne_of_gt HP.out.lt e_); clear bx1 hbx; replace HP := Aside0.mk (hP); replace HC := Aside0.mk (Ch.trans HC.out.fr hC); clear hP hC
     go_wp2_with fail
     refine (scan_Number.calls k _ _ _ _ HNu.out).mono ?_; rintro e w9 ⟨rfl, ⟨nd, rfl⟩⟩
     go_wp2_with fail
     refine (fail_calls b X 55 s _ HP.out.fr).mono ?_; rintro e w1 ⟨rfl, hb⟩; have n1_ := Aside0.mk (Ch.then_below HC.out.fr hb); clear HC hb; have HC := n1_; clear n1_
     exact ⟨rfl, rfl, HC.out⟩
    ·rw [if_neg c2] at hr
     obtain rfl := Option.some.inj hr
     have cb : decide ((2147483647 : Int) < n) = false := decide_eq_false c2
     clear c2 hr
     go_enter Tryd.func74, Tryd.ntmps74
     go_wp2_with fail
     refine (now_calls b X s _ HP.out.fr).mono ?_; rintro e w1 ⟨rfl, hb⟩; replace HP := Aside0.mk (PAt.below HP.out.fr hb); replace HC := Aside0.mk (Ch.then_below HC.out.fr hb); clear hb
     go_wp2_with fail
     refine (unless_calls b X ((Pm.now X.e s).f0 == 2) s _ HP.out.fr).mono ?_; rintro e w2 hU; rw [HU.out] at hU; obtain ⟨rfl, hP, hC⟩ := hU; have hbx := box_ch hC (fun e_ => Nat.ne_of_gt HP.out.lt e_); have HX := Aside0.mk hbx; obtain ⟨bx1, _, bx3⟩ := pcell hbx; have x0 := bx1 0 _ rfl; have x1 := bx1 1 _ rfl; have x2 := bx1 2 _ rfl; have HN := Aside0.mk (fun e_ => Nat.ne_of_gt HP.out.lt e_); clear bx1 hbx; replace HP := Aside0.mk (hP); replace HC := Aside0.mk (Ch.trans HC.out.fr hC); clear hP hC
     go_wp2_with fail
     refine (scan_Number.calls k _ _ _ _ HNu.out).mono ?_; rintro e w9 ⟨rfl, ⟨nd, rfl⟩⟩
     go_wp2
     go_ret
     exact ⟨rfl, HP.out.fr, HC.out.fr⟩
  ·rw [if_neg c] at hr
   obtain rfl := Option.some.inj hr
   have cb : (er == 0) = false := beq_eq_false_iff_ne.mpr c
   have cb2 : (er != 0) = true := bne_iff_ne.mpr c
   clear c hr
   go_enter Tryd.func74, Tryd.ntmps74
   go_wp2_with fail
   refine (now_calls b X s _ HP.out.fr).mono ?_; rintro e w1 ⟨rfl, hb⟩; replace HP := Aside0.mk (PAt.below HP.out.fr hb); replace HC := Aside0.mk (Ch.then_below HC.out.fr hb); clear hb
   go_wp2_with fail
   refine (unless_calls b X ((Pm.now X.e s).f0 == 2) s _ HP.out.fr).mono ?_; rintro e w2 hU; rw [HU.out] at hU; obtain ⟨rfl, hP, hC⟩ := hU; have hbx := box_ch hC (fun e_ => Nat.ne_of_gt HP.out.lt e_); have HX := Aside0.mk hbx; obtain ⟨bx1, _, bx3⟩ := pcell hbx; have x0 := bx1 0 _ rfl; have x1 := bx1 1 _ rfl; have x2 := bx1 2 _ rfl; have HN := Aside0.mk (fun e_ => Nat.ne_of_gt HP.out.lt e_); clear bx1 hbx; replace HP := Aside0.mk (hP); replace HC := Aside0.mk (Ch.trans HC.out.fr hC); clear hP hC
   go_wp2_with fail
   refine (scan_Number.calls k _ _ _ _ HNu.out).mono ?_; rintro e w9 ⟨rfl, ⟨nd, rfl⟩⟩
   go_wp2_with fail
   refine (fail_calls b X er s _ HP.out.fr).mono ?_; rintro e w1 ⟨rfl, hb⟩; have n1_ := Aside0.mk (Ch.then_below HC.out.fr hb); clear HC hb; have HC := n1_; clear n1_
   exact ⟨rfl, rfl, HC.out⟩
set_option maxHeartbeats 2000000 in
set_option maxRecDepth 100000 in
theorem closes_calls (b : Nat) (X : PFix) (s : PS) (W : World) (h : PAt b X W s) :
  Calls Tryd.prog 75 #[.pointer (some ⟨b, 0, none⟩)] W (PostU (· = b) b X W unit_ (Pm.closes X.e s)) := by
 have HP := Aside0.mk h
 have HC := Aside0.mk (Ch.refl (· = b) W)
 clear h
 unfold Pm.closes
 cases c : Pm.is X.e 4 ⟨#[91]⟩ s with
 | true =>
  rw [if_pos rfl]
  have CB := Aside0.mk c
  clear c
  go_enter Tryd.func75, Tryd.ntmps75
  go_wp2_with fail
  refine (is_calls b X 4 ⟨#[91]⟩ s _ HP.out.fr).mono ?_; rintro e w1 ⟨rfl, hb⟩; rw [CB.out]; replace HP := Aside0.mk (PAt.below HP.out.fr hb); replace HC := Aside0.mk (Ch.then_below HC.out.fr hb); clear hb
  go_wp2_with fail
  refine (fail_calls b X 52 s _ HP.out.fr).mono ?_; rintro e w1 ⟨rfl, hb⟩; have n1_ := Aside0.mk (Ch.then_below HC.out.fr hb); clear HC hb; have HC := n1_; clear n1_
  exact ⟨rfl, rfl, HC.out⟩
 | false =>
  rw [if_neg Bool.false_ne_true]
  have CB := Aside0.mk c
  clear c
  cases hu : Pm.sign X.e Pm.wSemi s with
  | error x =>
   have HU := Aside0.mk hu
   clear hu
   go_enter Tryd.func75, Tryd.ntmps75
   go_wp2_with fail
   refine (is_calls b X 4 ⟨#[91]⟩ s _ HP.out.fr).mono ?_; rintro e w1 ⟨rfl, hb⟩; rw [CB.out]; replace HP := Aside0.mk (PAt.below HP.out.fr hb); replace HC := Aside0.mk (Ch.then_below HC.out.fr hb); clear hb
   go_wp2_with fail
   refine (sign_calls b X Pm.wSemi s _ HP.out.fr).mono ?_; rintro e w1 hU; rw [HU.out] at hU; obtain ⟨rfl, hC⟩ := hU; have n1_ := Aside0.mk (Ch.trans HC.out.fr hC); clear HC hC; have HC := n1_; clear n1_
   exact ⟨rfl, rfl, HC.out⟩
  | ok a =>
   obtain ⟨⟨⟩, s1⟩ := a
   have HU := Aside0.mk hu
   clear hu
   go_enter Tryd.func75, Tryd.ntmps75
   go_wp2_with fail
   refine (is_calls b X 4 ⟨#[91]⟩ s _ HP.out.fr).mono ?_; rintro e w1 ⟨rfl, hb⟩; rw [CB.out]; replace HP := Aside0.mk (PAt.below HP.out.fr hb); replace HC := Aside0.mk (Ch.then_below HC.out.fr hb); clear hb
   go_wp2_with fail
   refine (sign_calls b X Pm.wSemi s _ HP.out.fr).mono ?_; rintro e w1 hU; rw [HU.out] at hU; obtain ⟨rfl, hP, hC⟩ := hU; replace HP := Aside0.mk (hP); replace HC := Aside0.mk (Ch.trans HC.out.fr hC); clear hP hC
   go_wp2
   go_end0
   exact ⟨rfl, HP.out, HC.out⟩
set_option maxHeartbeats 2000000 in
set_option maxRecDepth 100000 in
theorem text_calls (b : Nat) (X : PFix) (k fv : Nat) (may : ByteArray → Option Int) (hent : ∀ args w, Sem.run Tryd.prog (callFunc fv args) w = .ok (.enter fv args) w)
  (hmay : Aside0 (∀ (t : ByteArray) (m : Int) (W : World), may t = some m → Calls Tryd.prog fv #[.string t] W fun e w' => e = .returned (.int .i64 m) ∧ Below W.heap.size W w')) (s : PS) (r : PR ByteArray) (hr : Pm.text k X.e may s = some r) (W : World) (h : PAt b X W s) :
  Calls Tryd.prog 56 #[.pointer (some ⟨b, 0, none⟩), .func (.func fv) #[] #[]] W (PostU (· = b) b X W (fun t => .string t) r) := by
 have HP := Aside0.mk h
 have HC := Aside0.mk (Ch.refl (· = b) W)
 clear h
 unfold Pm.text Pm.bo at hr
 cases hu : Pm.unl X.e ((Pm.now X.e s).f0 == 3) s with
 | error x =>
  rw [hu] at hr
  obtain rfl := Option.some.inj hr
  have HU := Aside0.mk hu
  clear hu hr
  go_enter Tryd.func56, Tryd.ntmps56
  go_wp2_with (first | (go_at_call 58; refine (now_calls b X s _ HP.out.fr).mono ?_; rintro e w1 ⟨rfl, hb⟩; replace HP := Aside0.mk (PAt.below HP.out.fr hb); replace HC := Aside0.mk (Ch.then_below HC.out.fr hb); clear hb) | (go_at_call 52; refine (unless_calls b X ((Pm.now X.e s).f0 == 3) s _ HP.out.fr).mono ?_; rintro e w1 hU; rw [HU.out] at hU; obtain ⟨rfl, hC⟩ := hU; have n1_ := Aside0.mk (Ch.trans HC.out.fr hC); clear HC hC; have HC := n1_; clear n1_))
  exact ⟨rfl, rfl, HC.out⟩
 | ok a =>
  obtain ⟨⟨⟩, s1⟩ := a
  obtain ⟨hk1, rfl⟩ := unl_ok hu
  clear hk1
  rw [hu] at hr
  dsimp only at hr
  have HU := Aside0.mk hu
  clear hu
  obtain ⟨⟨t, er⟩, hn, hr⟩ := Option.bind_eq_some_iff.mp hr
  dsimp only at hr
  have HNu := Aside0.mk hn
  clear hn
  by_cases c : er = 0
  ·rw [if_pos c] at hr
   subst c
   obtain ⟨m, hm, hr⟩ := Option.bind_eq_some_iff.mp hr
   have HM := Aside0.mk hm
   clear hm
   by_cases c : m = 0
   ·rw [if_pos c] at hr
    subst c
    obtain rfl := Option.some.inj hr
    clear hr
    go_enter Tryd.func56, Tryd.ntmps56
    go_wp2_with fail
    refine (now_calls b X s _ HP.out.fr).mono ?_; rintro e w1 ⟨rfl, hb⟩; replace HP := Aside0.mk (PAt.below HP.out.fr hb); replace HC := Aside0.mk (Ch.then_below HC.out.fr hb); clear hb
    go_wp2_with fail
    refine (unless_calls b X ((Pm.now X.e s).f0 == 3) s _ HP.out.fr).mono ?_; rintro e w2 hU; rw [HU.out] at hU; obtain ⟨rfl, hP, hC⟩ := hU; have hbx := box_ch hC (fun e_ => Nat.ne_of_gt HP.out.lt e_); have HX := Aside0.mk hbx; obtain ⟨bx1, _, bx3⟩ := pcell hbx; have x0 := bx1 0 _ rfl; have x1 := bx1 1 _ rfl; have x2 := bx1 2 _ rfl; have HN := Aside0.mk (fun e_ => Nat.ne_of_gt HP.out.lt e_); clear bx1 hbx; replace HP := Aside0.mk (hP); replace HC := Aside0.mk (Ch.trans HC.out.fr hC); clear hP hC
    go_wp2_with fail
    refine (scan_Unquote.calls k _ _ _ _ HNu.out (PAt.laid HP.out)).mono ?_; rintro e w9 ⟨rfl, hb⟩; have n0_ := Aside0.mk (PAt.below HP.out hb); have n1_ := Aside0.mk (Ch.then_below HC.out hb); clear HP HC hb; have HP := n0_; have HC := n1_; clear n0_ n1_
    go_wp2_with fail
    refine (hmay.out _ _ _ HM.out).mono ?_; rintro e w8 ⟨rfl, hb⟩; have n0_ := Aside0.mk (PAt.below HP.out.fr hb); have n1_ := Aside0.mk (Ch.then_below HC.out.fr hb); clear HP HC hb; have HP := n0_; have HC := n1_; clear n0_ n1_
    go_wp2
    go_ret
    exact ⟨rfl, HP.out, HC.out⟩
   ·rw [if_neg c] at hr
    obtain rfl := Option.some.inj hr
    have cb : (m == 0) = false := beq_eq_false_iff_ne.mpr c
    have cb2 : (m != 0) = true := bne_iff_ne.mpr c
    clear c hr
    go_enter Tryd.func56, Tryd.ntmps56
    go_wp2_with fail
    refine (now_calls b X s _ HP.out.fr).mono ?_; rintro e w1 ⟨rfl, hb⟩; replace HP := Aside0.mk (PAt.below HP.out.fr hb); replace HC := Aside0.mk (Ch.then_below HC.out.fr hb); clear hb
    go_wp2_with fail
    refine (unless_calls b X ((Pm.now X.e s).f0 == 3) s _ HP.out.fr).mono ?_; rintro e w2 hU; rw [HU.out] at hU; obtain ⟨rfl, hP, hC⟩ := hU; have hbx := box_ch hC (fun e_ => Nat.ne_of_gt HP.out.lt e_); have HX := Aside0.mk hbx; obtain ⟨bx1, _, bx3⟩ := pcell hbx; have x0 := bx1 0 _ rfl; have x1 := bx1 1 _ rfl; have x2 := bx1 2 _ rfl; have HN := Aside0.mk (fun e_ => Nat.ne_of_gt HP.out.lt e_); clear bx1 hbx; replace HP := Aside0.mk (hP); replace HC := Aside0.mk (Ch.trans HC.out.fr hC); clear hP hC
    go_wp2_with fail
    refine (scan_Unquote.calls k _ _ _ _ HNu.out (PAt.laid HP.out)).mono ?_; rintro e w9 ⟨rfl, hb⟩; have n0_ := Aside0.mk (PAt.below HP.out hb); have n1_ := Aside0.mk (Ch.then_below HC.out hb); clear HP HC hb; have HP := n0_; have HC := n1_; clear n0_ n1_
    go_wp2_with fail
    refine (hmay.out _ _ _ HM.out).mono ?_; rintro e w8 ⟨rfl, hb⟩; have n0_ := Aside0.mk (PAt.below HP.out.fr hb); have n1_ := Aside0.mk (Ch.then_below HC.out.fr hb); clear HP HC hb; have HP := n0_; have HC := n1_; clear n0_ n1_
    go_wp2_with fail
    refine (fail_calls b X m s _ HP.out.fr).mono ?_; rintro e w1 ⟨rfl, hb⟩; have n1_ := Aside0.mk (Ch.then_below HC.out.fr hb); clear HC hb; have HC := n1_; clear n1_
    exact ⟨rfl, rfl, HC.out⟩
  ·rw [if_neg c] at hr
   obtain rfl := Option.some.inj hr
   have cb : (er == 0) = false := beq_eq_false_iff_ne.mpr c
   have cb2 : (er != 0) = true := bne_iff_ne.mpr c
   clear c hr
   go_enter Tryd.func56, Tryd.ntmps56
   go_wp2_with fail
   refine (now_calls b X s _ HP.out.fr).mono ?_; rintro e w1 ⟨rfl, hb⟩; replace HP := Aside0.mk (PAt.below HP.out.fr hb); replace HC := Aside0.mk (Ch.then_below HC.out.fr hb); clear hb
   go_wp2_with fail
   refine (unless_calls b X ((Pm.now X.e s).f0 == 3) s _ HP.out.fr).mono ?_; rintro e w2 hU; rw [HU.out] at hU; obtain ⟨rfl, hP, hC⟩ := hU; have hbx := box_ch hC (fun e_ => Nat.ne_of_gt HP.out.lt e_); have HX := Aside0.mk hbx; obtain ⟨bx1, _, bx3⟩ := pcell hbx; have x0 := bx1 0 _ rfl; have x1 := bx1 1 _ rfl; have x2 := bx1 2 _ rfl; have HN := Aside0.mk (fun e_ => Nat.ne_of_gt HP.out.lt e_); clear bx1 hbx; replace HP := Aside0.mk (hP); replace HC := Aside0.mk (Ch.trans HC.out.fr hC); clear hP hC
   go_wp2_with fail
   refine (scan_Unquote.calls k _ _ _ _ HNu.out (PAt.laid HP.out)).mono ?_; rintro e w9 ⟨rfl, hb⟩; have n0_ := Aside0.mk (PAt.below HP.out hb); have n1_ := Aside0.mk (Ch.then_below HC.out hb); clear HP HC hb; have HP := n0_; have HC := n1_; clear n0_ n1_
   go_wp2_with fail
   refine (fail_calls b X er s _ HP.out.fr).mono ?_; rintro e w1 ⟨rfl, hb⟩; have n1_ := Aside0.mk (Ch.then_below HC.out.fr hb); clear HC hb; have HC := n1_; clear n1_
   exact ⟨rfl, rfl, HC.out⟩
end Go.Proofs.YtgkodenllfpajaaDoor.A
end
section
namespace Go.Proofs.YtgkodenllfpajaaDoor.A
open Go.RowKit Go.Proofs.YtgkodenllfpajaaDoorW.PrintWords Go.Proofs.YtgkodenllfpajaaDoorW.PrintLast Go.Proofs.YtgkodenllfpajaaDoorW.PrintMore
set_option linter.unusedVariables false
set_option linter.unusedSimpArgs false
set_option maxHeartbeats 8000000 in
set_option maxRecDepth 100000 in
theorem names_calls (b : Nat) (X : PFix) (k : Nat) (dots counted : Bool) (s : PS) (r : PR ByteArray) (hr : Pm.names k X.e dots counted s = some r) (W : World) (h : PAt b X W s) :
  Calls Tryd.prog 65 #[.pointer (some ⟨b, 0, none⟩), .bool dots, .bool counted] W (PostU (· = b) b X W (fun t => .string t) r) := by
 have HP := Aside0.mk h
 have HC := Aside0.mk (Ch.refl (· = b) W)
 clear h
 have hf := fld1
 unfold Pm.names at hr
 by_cases hd : dots = true ∧ Pm.is X.e 4 Pm.dot s = true
 ·rw [if_pos hd] at hr
  obtain ⟨rfl, hd⟩ := hd
  have HD0 := Aside0.mk hd
  clear hd
  unfold Pm.bo at hr
  cases counted with
  | true =>
   rw [if_pos rfl] at hr
   cases hc : Pm.counts X.e s with
   | error x =>
    rw [hc] at hr
    obtain rfl := Option.some.inj hr
    have HCo := Aside0.mk hc
    clear hr hc
    go_enter Tryd.func65, Tryd.ntmps65
    go_wp2_with fail
    refine (now_calls b X s _ HP.out.fr).mono ?_; rintro e w1 ⟨rfl, hb⟩; replace HP := Aside0.mk (PAt.below HP.out.fr hb); replace HC := Aside0.mk (Ch.then_below HC.out.fr hb); clear hb
    go_wp2_with fail
    refine (is_calls b X 4 Pm.dot s _ HP.out.fr).mono ?_; rintro e w1 ⟨rfl, hb⟩; rw [HD0.out]; replace HP := Aside0.mk (PAt.below HP.out.fr hb); replace HC := Aside0.mk (Ch.then_below HC.out.fr hb); clear hb
    go_wp2_with fail
    refine (counts_calls b X s _ HP.out.fr).mono ?_; rintro e w1 hU; rw [HCo.out] at hU; obtain ⟨rfl, hC⟩ := hU; have n1_ := Aside0.mk (Ch.trans HC.out.fr hC); clear HC hC; have HC := n1_; clear n1_
    exact ⟨rfl, rfl, HC.out⟩
   | ok a =>
    obtain ⟨⟨⟩, s0⟩ := a
    rw [hc] at hr
    dsimp only at hr
    have HR := Aside0.mk hr
    have HCo := Aside0.mk hc
    clear hr hc
    go_enter Tryd.func65, Tryd.ntmps65
    go_wp2_with fail
    refine (now_calls b X s _ HP.out.fr).mono ?_; rintro e w1 ⟨rfl, hb⟩; replace HP := Aside0.mk (PAt.below HP.out.fr hb); replace HC := Aside0.mk (Ch.then_below HC.out.fr hb); clear hb
    go_wp2_with fail
    refine (is_calls b X 4 Pm.dot s _ HP.out.fr).mono ?_; rintro e w1 ⟨rfl, hb⟩; rw [HD0.out]; replace HP := Aside0.mk (PAt.below HP.out.fr hb); replace HC := Aside0.mk (Ch.then_below HC.out.fr hb); clear hb
    go_wp2_with fail
    refine (counts_calls b X s _ HP.out.fr).mono ?_; rintro e w1 hU; rw [HCo.out] at hU; obtain ⟨rfl, hP, hC⟩ := hU; replace HP := Aside0.mk (hP); replace HC := Aside0.mk (Ch.trans HC.out.fr hC); clear hP hC
    go_wp2_with fail
    refine (next_calls b X s0 _ HP.out.fr).mono ?_; rintro e w1 ⟨rfl, hP, hC⟩; replace HP := Aside0.mk (hP); replace HC := Aside0.mk (Ch.trans HC.out.fr hC); clear hP hC
    go_wp2
    go_loopg [2, 8] k (fun kq v2 v8 w' => ∃ (cn : Bool) (t : ByteArray) (s' : PS), v2 = .bool cn ∧ v8 = .string t ∧ Aside0 (Pm.namesL X.e (Pm.now X.e s).f1 kq cn t s' = some r) ∧ Aside0 (kq ≤ k) ∧ Aside0 (PAt b X w' s') ∧ Aside0 (Ch (· = b) W w'))
    case atStart => exact ⟨_, _, _, rfl, rfl, HR, ⟨Nat.le_refl _⟩, HP, HC⟩
    case round =>
     clear HR HP HC
     obtain ⟨cn, t, s', rfl, rfl, HR, HK1, HP, HC⟩ := hrel
     cases gk with
     | zero => exact absurd HR.out (by simp [Pm.namesL])
     | succ k1 =>
      have H := HR.out
      clear HR
      simp only [Pm.namesL] at H
      unfold Pm.bo at H
      cases hu : Pm.named k1 X.e s' with
      | none => rw [hu] at H; cases H
      | some u =>
       rw [hu] at H
       have HU := Aside0.mk hu
       clear hu
       cases u with
       | error x =>
        obtain rfl := Option.some.inj H
        clear H
        go_wp2_with fail
        refine (named_calls b X k1 s' _ HU.out _ HP.out.fr).mono ?_; rintro e w1 ⟨rfl, hC⟩; have n1_ := Aside0.mk (Ch.trans HC.out.fr hC); clear HC hC; have HC := n1_; clear n1_
        exact ⟨rfl, rfl, HC.out⟩
       | ok a =>
        obtain ⟨n, s1⟩ := a
        dsimp only at H
        cases cn with
        | true =>
         rw [if_pos rfl] at H
         cases hc : Pm.counts X.e s1 with
         | error x =>
          rw [hc] at H
          obtain rfl := Option.some.inj H
          have HCo := Aside0.mk hc
          clear H hc
          go_wp2_with fail
          refine (named_calls b X k1 s' _ HU.out _ HP.out.fr).mono ?_; rintro e w1 ⟨rfl, hP, hC⟩; replace HP := Aside0.mk (hP); replace HC := Aside0.mk (Ch.trans HC.out.fr hC); clear hP hC
          go_wp2_with fail
          refine (counts_calls b X s1 _ HP.out.fr).mono ?_; rintro e w1 hU; rw [HCo.out] at hU; obtain ⟨rfl, hC⟩ := hU; have n1_ := Aside0.mk (Ch.trans HC.out.fr hC); clear HC hC; have HC := n1_; clear n1_
          exact ⟨rfl, rfl, HC.out⟩
         | ok a =>
          obtain ⟨⟨⟩, s2⟩ := a
          rw [hc] at H
          dsimp only at H
          have HCo := Aside0.mk hc
          clear hc
          by_cases z1 : t.size + n.size ≤ 140737488355328
          ·rw [if_pos z1] at H
           have ez := ByteArray.size_append (a := t) (b := n)
           have z1a : (9223372036854775807 < t.size + n.size) = False := eq_false (by omega)
           cases hd : Pm.is X.e 4 Pm.dot (Pm.nxt s2) with
           | true =>
            rw [hd, if_pos rfl] at H
            have HD := Aside0.mk hd
            clear hd
            by_cases z2 : t.size + n.size + 1 ≤ 140737488355328
            ·rw [if_pos z2] at H
             have z2a : (9223372036854775807 < t.size + n.size + 1) = False := eq_false (by omega)
             have H' := Aside0.mk H
             clear H z1 z2 ez
             go_wp2_with fail
             refine (named_calls b X k1 s' _ HU.out _ HP.out.fr).mono ?_; rintro e w1 ⟨rfl, hP, hC⟩; replace HP := Aside0.mk (hP); replace HC := Aside0.mk (Ch.trans HC.out.fr hC); clear hP hC
             go_wp2_with fail
             refine (counts_calls b X s1 _ HP.out.fr).mono ?_; rintro e w1 hU; rw [HCo.out] at hU; obtain ⟨rfl, hP, hC⟩ := hU; replace HP := Aside0.mk (hP); replace HC := Aside0.mk (Ch.trans HC.out.fr hC); clear hP hC
             go_wp2_with fail
             refine (next_calls b X s2 _ HP.out.fr).mono ?_; rintro e w1 ⟨rfl, hP, hC⟩; replace HP := Aside0.mk (hP); replace HC := Aside0.mk (Ch.trans HC.out.fr hC); clear hP hC
             go_wp2_with fail
             refine (is_calls b X 4 Pm.dot (Pm.nxt s2) _ HP.out.fr).mono ?_; rintro e w1 ⟨rfl, hb⟩; rw [HD.out]; replace HP := Aside0.mk (PAt.below HP.out.fr hb); replace HC := Aside0.mk (Ch.then_below HC.out.fr hb); clear hb
             go_wp2_with fail
             refine (next_calls b X (Pm.nxt s2) _ HP.out.fr).mono ?_; rintro e w1 ⟨rfl, hP, hC⟩; replace HP := Aside0.mk (hP); replace HC := Aside0.mk (Ch.trans HC.out.fr hC); clear hP hC
             go_wp2
             go_roundg k1
             case measure => have := HK1.out; omega
             case rel => exact ⟨_, _, _, rfl, rfl, H', ⟨by have := HK1.out; omega⟩, HP, HC⟩
            ·rw [if_neg z2] at H; cases H
           | false =>
            rw [hd, if_neg Bool.false_ne_true] at H
            have HD := Aside0.mk hd
            clear hd
            by_cases z2 : ((t ++ n).size : Int) > 255
            ·rw [if_pos z2] at H
             obtain rfl := Option.some.inj H
             have z2a : decide ((255 : Int) < (t.size : Int) + (n.size : Int)) = true := decide_eq_true (by omega)
             clear H z1 z2 ez
             go_wp2_with fail
             refine (named_calls b X k1 s' _ HU.out _ HP.out.fr).mono ?_; rintro e w1 ⟨rfl, hP, hC⟩; replace HP := Aside0.mk (hP); replace HC := Aside0.mk (Ch.trans HC.out.fr hC); clear hP hC
             go_wp2_with fail
             refine (counts_calls b X s1 _ HP.out.fr).mono ?_; rintro e w1 hU; rw [HCo.out] at hU; obtain ⟨rfl, hP, hC⟩ := hU; replace HP := Aside0.mk (hP); replace HC := Aside0.mk (Ch.trans HC.out.fr hC); clear hP hC
             go_wp2_with fail
             refine (next_calls b X s2 _ HP.out.fr).mono ?_; rintro e w1 ⟨rfl, hP, hC⟩; replace HP := Aside0.mk (hP); replace HC := Aside0.mk (Ch.trans HC.out.fr hC); clear hP hC
             go_wp2_with fail
             refine (is_calls b X 4 Pm.dot (Pm.nxt s2) _ HP.out.fr).mono ?_; rintro e w1 ⟨rfl, hb⟩; rw [HD.out]; replace HP := Aside0.mk (PAt.below HP.out.fr hb); replace HC := Aside0.mk (Ch.then_below HC.out.fr hb); clear hb
             go_wp2
             exact ⟨rfl, rfl, HC.out⟩
            ·rw [if_neg z2] at H
             obtain rfl := Option.some.inj H
             have z2a : decide ((255 : Int) < (t.size : Int) + (n.size : Int)) = false := decide_eq_false (by omega)
             clear H z1 z2 ez
             go_wp2_with fail
             refine (named_calls b X k1 s' _ HU.out _ HP.out.fr).mono ?_; rintro e w1 ⟨rfl, hP, hC⟩; replace HP := Aside0.mk (hP); replace HC := Aside0.mk (Ch.trans HC.out.fr hC); clear hP hC
             go_wp2_with fail
             refine (counts_calls b X s1 _ HP.out.fr).mono ?_; rintro e w1 hU; rw [HCo.out] at hU; obtain ⟨rfl, hP, hC⟩ := hU; replace HP := Aside0.mk (hP); replace HC := Aside0.mk (Ch.trans HC.out.fr hC); clear hP hC
             go_wp2_with fail
             refine (next_calls b X s2 _ HP.out.fr).mono ?_; rintro e w1 ⟨rfl, hP, hC⟩; replace HP := Aside0.mk (hP); replace HC := Aside0.mk (Ch.trans HC.out.fr hC); clear hP hC
             go_wp2_with fail
             refine (is_calls b X 4 Pm.dot (Pm.nxt s2) _ HP.out.fr).mono ?_; rintro e w1 ⟨rfl, hb⟩; rw [HD.out]; replace HP := Aside0.mk (PAt.below HP.out.fr hb); replace HC := Aside0.mk (Ch.then_below HC.out.fr hb); clear hb
             go_wp2
             go_ret
             exact ⟨rfl, HP.out, HC.out⟩
          ·rw [if_neg z1] at H; cases H
        | false =>
         rw [if_neg Bool.false_ne_true] at H
         dsimp only at H
         by_cases z1 : t.size + n.size ≤ 140737488355328
         ·rw [if_pos z1] at H
          have ez := ByteArray.size_append (a := t) (b := n)
          have z1a : (9223372036854775807 < t.size + n.size) = False := eq_false (by omega)
          cases hd : Pm.is X.e 4 Pm.dot (Pm.nxt s1) with
          | true =>
           rw [hd, if_pos rfl] at H
           have HD := Aside0.mk hd
           clear hd
           by_cases z2 : t.size + n.size + 1 ≤ 140737488355328
           ·rw [if_pos z2] at H
            have z2a : (9223372036854775807 < t.size + n.size + 1) = False := eq_false (by omega)
            have H' := Aside0.mk H
            clear H z1 z2 ez
            go_wp2_with fail
            refine (named_calls b X k1 s' _ HU.out _ HP.out.fr).mono ?_; rintro e w1 ⟨rfl, hP, hC⟩; replace HP := Aside0.mk (hP); replace HC := Aside0.mk (Ch.trans HC.out.fr hC); clear hP hC
            go_wp2_with fail
            refine (next_calls b X s1 _ HP.out.fr).mono ?_; rintro e w1 ⟨rfl, hP, hC⟩; replace HP := Aside0.mk (hP); replace HC := Aside0.mk (Ch.trans HC.out.fr hC); clear hP hC
            go_wp2_with fail
            refine (is_calls b X 4 Pm.dot (Pm.nxt s1) _ HP.out.fr).mono ?_; rintro e w1 ⟨rfl, hb⟩; rw [HD.out]; replace HP := Aside0.mk (PAt.below HP.out.fr hb); replace HC := Aside0.mk (Ch.then_below HC.out.fr hb); clear hb
            go_wp2_with fail
            refine (next_calls b X (Pm.nxt s1) _ HP.out.fr).mono ?_; rintro e w1 ⟨rfl, hP, hC⟩; replace HP := Aside0.mk (hP); replace HC := Aside0.mk (Ch.trans HC.out.fr hC); clear hP hC
            go_wp2
            go_roundg k1
            case measure => have := HK1.out; omega
            case rel => exact ⟨_, _, _, rfl, rfl, H', ⟨by have := HK1.out; omega⟩, HP, HC⟩
           ·rw [if_neg z2] at H; cases H
          | false =>
           rw [hd, if_neg Bool.false_ne_true] at H
           have HD := Aside0.mk hd
           clear hd
           by_cases z2 : ((t ++ n).size : Int) > 255
           ·rw [if_pos z2] at H
            obtain rfl := Option.some.inj H
            have z2a : decide ((255 : Int) < (t.size : Int) + (n.size : Int)) = true := decide_eq_true (by omega)
            clear H z1 z2 ez
            go_wp2_with fail
            refine (named_calls b X k1 s' _ HU.out _ HP.out.fr).mono ?_; rintro e w1 ⟨rfl, hP, hC⟩; replace HP := Aside0.mk (hP); replace HC := Aside0.mk (Ch.trans HC.out.fr hC); clear hP hC
            go_wp2_with fail
            refine (next_calls b X s1 _ HP.out.fr).mono ?_; rintro e w1 ⟨rfl, hP, hC⟩; replace HP := Aside0.mk (hP); replace HC := Aside0.mk (Ch.trans HC.out.fr hC); clear hP hC
            go_wp2_with fail
            refine (is_calls b X 4 Pm.dot (Pm.nxt s1) _ HP.out.fr).mono ?_; rintro e w1 ⟨rfl, hb⟩; rw [HD.out]; replace HP := Aside0.mk (PAt.below HP.out.fr hb); replace HC := Aside0.mk (Ch.then_below HC.out.fr hb); clear hb
            go_wp2
            exact ⟨rfl, rfl, HC.out⟩
           ·rw [if_neg z2] at H
            obtain rfl := Option.some.inj H
            have z2a : decide ((255 : Int) < (t.size : Int) + (n.size : Int)) = false := decide_eq_false (by omega)
            clear H z1 z2 ez
            go_wp2_with fail
            refine (named_calls b X k1 s' _ HU.out _ HP.out.fr).mono ?_; rintro e w1 ⟨rfl, hP, hC⟩; replace HP := Aside0.mk (hP); replace HC := Aside0.mk (Ch.trans HC.out.fr hC); clear hP hC
            go_wp2_with fail
            refine (next_calls b X s1 _ HP.out.fr).mono ?_; rintro e w1 ⟨rfl, hP, hC⟩; replace HP := Aside0.mk (hP); replace HC := Aside0.mk (Ch.trans HC.out.fr hC); clear hP hC
            go_wp2_with fail
            refine (is_calls b X 4 Pm.dot (Pm.nxt s1) _ HP.out.fr).mono ?_; rintro e w1 ⟨rfl, hb⟩; rw [HD.out]; replace HP := Aside0.mk (PAt.below HP.out.fr hb); replace HC := Aside0.mk (Ch.then_below HC.out.fr hb); clear hb
            go_wp2
            go_ret
            exact ⟨rfl, HP.out, HC.out⟩
         ·rw [if_neg z1] at H; cases H
  | false =>
   rw [if_neg Bool.false_ne_true] at hr
   dsimp only at hr
   have HR := Aside0.mk hr
   clear hr
   go_enter Tryd.func65, Tryd.ntmps65
   go_wp2_with fail
   refine (now_calls b X s _ HP.out.fr).mono ?_; rintro e w1 ⟨rfl, hb⟩; replace HP := Aside0.mk (PAt.below HP.out.fr hb); replace HC := Aside0.mk (Ch.then_below HC.out.fr hb); clear hb
   go_wp2_with fail
   refine (is_calls b X 4 Pm.dot s _ HP.out.fr).mono ?_; rintro e w1 ⟨rfl, hb⟩; rw [HD0.out]; replace HP := Aside0.mk (PAt.below HP.out.fr hb); replace HC := Aside0.mk (Ch.then_below HC.out.fr hb); clear hb
   go_wp2_with fail
   refine (next_calls b X s _ HP.out.fr).mono ?_; rintro e w1 ⟨rfl, hP, hC⟩; replace HP := Aside0.mk (hP); replace HC := Aside0.mk (Ch.trans HC.out.fr hC); clear hP hC
   go_wp2
   go_loopg [2, 8] k (fun kq v2 v8 w' => ∃ (cn : Bool) (t : ByteArray) (s' : PS), v2 = .bool cn ∧ v8 = .string t ∧ Aside0 (Pm.namesL X.e (Pm.now X.e s).f1 kq cn t s' = some r) ∧ Aside0 (kq ≤ k) ∧ Aside0 (PAt b X w' s') ∧ Aside0 (Ch (· = b) W w'))
   case atStart => exact ⟨_, _, _, rfl, rfl, HR, ⟨Nat.le_refl _⟩, HP, HC⟩
   case round =>
    clear HR HP HC
    obtain ⟨cn, t, s', rfl, rfl, HR, HK1, HP, HC⟩ := hrel
    cases gk with
    | zero => exact absurd HR.out (by simp [Pm.namesL])
    | succ k1 =>
     have H := HR.out
     clear HR
     simp only [Pm.namesL] at H
     unfold Pm.bo at H
     cases hu : Pm.named k1 X.e s' with
     | none => rw [hu] at H; cases H
     | some u =>
      rw [hu] at H
      have HU := Aside0.mk hu
      clear hu
      cases u with
      | error x =>
       obtain rfl := Option.some.inj H
       clear H
       go_wp2_with fail
       refine (named_calls b X k1 s' _ HU.out _ HP.out.fr).mono ?_; rintro e w1 ⟨rfl, hC⟩; have n1_ := Aside0.mk (Ch.trans HC.out.fr hC); clear HC hC; have HC := n1_; clear n1_
       exact ⟨rfl, rfl, HC.out⟩
      | ok a =>
       obtain ⟨n, s1⟩ := a
       dsimp only at H
       cases cn with
       | true =>
        rw [if_pos rfl] at H
        cases hc : Pm.counts X.e s1 with
        | error x =>
         rw [hc] at H
         obtain rfl := Option.some.inj H
         have HCo := Aside0.mk hc
         clear H hc
         go_wp2_with fail
         refine (named_calls b X k1 s' _ HU.out _ HP.out.fr).mono ?_; rintro e w1 ⟨rfl, hP, hC⟩; replace HP := Aside0.mk (hP); replace HC := Aside0.mk (Ch.trans HC.out.fr hC); clear hP hC
         go_wp2_with fail
         refine (counts_calls b X s1 _ HP.out.fr).mono ?_; rintro e w1 hU; rw [HCo.out] at hU; obtain ⟨rfl, hC⟩ := hU; have n1_ := Aside0.mk (Ch.trans HC.out.fr hC); clear HC hC; have HC := n1_; clear n1_
         exact ⟨rfl, rfl, HC.out⟩
        | ok a =>
         obtain ⟨⟨⟩, s2⟩ := a
         rw [hc] at H
         dsimp only at H
         have HCo := Aside0.mk hc
         clear hc
         by_cases z1 : t.size + n.size ≤ 140737488355328
         ·rw [if_pos z1] at H
          have ez := ByteArray.size_append (a := t) (b := n)
          have z1a : (9223372036854775807 < t.size + n.size) = False := eq_false (by omega)
          cases hd : Pm.is X.e 4 Pm.dot (Pm.nxt s2) with
          | true =>
           rw [hd, if_pos rfl] at H
           have HD := Aside0.mk hd
           clear hd
           by_cases z2 : t.size + n.size + 1 ≤ 140737488355328
           ·rw [if_pos z2] at H
            have z2a : (9223372036854775807 < t.size + n.size + 1) = False := eq_false (by omega)
            have H' := Aside0.mk H
            clear H z1 z2 ez
            go_wp2_with fail
            refine (named_calls b X k1 s' _ HU.out _ HP.out.fr).mono ?_; rintro e w1 ⟨rfl, hP, hC⟩; replace HP := Aside0.mk (hP); replace HC := Aside0.mk (Ch.trans HC.out.fr hC); clear hP hC
            go_wp2_with fail
            refine (counts_calls b X s1 _ HP.out.fr).mono ?_; rintro e w1 hU; rw [HCo.out] at hU; obtain ⟨rfl, hP, hC⟩ := hU; replace HP := Aside0.mk (hP); replace HC := Aside0.mk (Ch.trans HC.out.fr hC); clear hP hC
            go_wp2_with fail
            refine (next_calls b X s2 _ HP.out.fr).mono ?_; rintro e w1 ⟨rfl, hP, hC⟩; replace HP := Aside0.mk (hP); replace HC := Aside0.mk (Ch.trans HC.out.fr hC); clear hP hC
            go_wp2_with fail
            refine (is_calls b X 4 Pm.dot (Pm.nxt s2) _ HP.out.fr).mono ?_; rintro e w1 ⟨rfl, hb⟩; rw [HD.out]; replace HP := Aside0.mk (PAt.below HP.out.fr hb); replace HC := Aside0.mk (Ch.then_below HC.out.fr hb); clear hb
            go_wp2_with fail
            refine (next_calls b X (Pm.nxt s2) _ HP.out.fr).mono ?_; rintro e w1 ⟨rfl, hP, hC⟩; replace HP := Aside0.mk (hP); replace HC := Aside0.mk (Ch.trans HC.out.fr hC); clear hP hC
            go_wp2
            go_roundg k1
            case measure => have := HK1.out; omega
            case rel => exact ⟨_, _, _, rfl, rfl, H', ⟨by have := HK1.out; omega⟩, HP, HC⟩
           ·rw [if_neg z2] at H; cases H
          | false =>
           rw [hd, if_neg Bool.false_ne_true] at H
           have HD := Aside0.mk hd
           clear hd
           by_cases z2 : ((t ++ n).size : Int) > 255
           ·rw [if_pos z2] at H
            obtain rfl := Option.some.inj H
            have z2a : decide ((255 : Int) < (t.size : Int) + (n.size : Int)) = true := decide_eq_true (by omega)
            clear H z1 z2 ez
            go_wp2_with fail
            refine (named_calls b X k1 s' _ HU.out _ HP.out.fr).mono ?_; rintro e w1 ⟨rfl, hP, hC⟩; replace HP := Aside0.mk (hP); replace HC := Aside0.mk (Ch.trans HC.out.fr hC); clear hP hC
            go_wp2_with fail
            refine (counts_calls b X s1 _ HP.out.fr).mono ?_; rintro e w1 hU; rw [HCo.out] at hU; obtain ⟨rfl, hP, hC⟩ := hU; replace HP := Aside0.mk (hP); replace HC := Aside0.mk (Ch.trans HC.out.fr hC); clear hP hC
            go_wp2_with fail
            refine (next_calls b X s2 _ HP.out.fr).mono ?_; rintro e w1 ⟨rfl, hP, hC⟩; replace HP := Aside0.mk (hP); replace HC := Aside0.mk (Ch.trans HC.out.fr hC); clear hP hC
            go_wp2_with fail
            refine (is_calls b X 4 Pm.dot (Pm.nxt s2) _ HP.out.fr).mono ?_; rintro e w1 ⟨rfl, hb⟩; rw [HD.out]; replace HP := Aside0.mk (PAt.below HP.out.fr hb); replace HC := Aside0.mk (Ch.then_below HC.out.fr hb); clear hb
            go_wp2
            exact ⟨rfl, rfl, HC.out⟩
           ·rw [if_neg z2] at H
            obtain rfl := Option.some.inj H
            have z2a : decide ((255 : Int) < (t.size : Int) + (n.size : Int)) = false := decide_eq_false (by omega)
            clear H z1 z2 ez
            go_wp2_with fail
            refine (named_calls b X k1 s' _ HU.out _ HP.out.fr).mono ?_; rintro e w1 ⟨rfl, hP, hC⟩; replace HP := Aside0.mk (hP); replace HC := Aside0.mk (Ch.trans HC.out.fr hC); clear hP hC
            go_wp2_with fail
            refine (counts_calls b X s1 _ HP.out.fr).mono ?_; rintro e w1 hU; rw [HCo.out] at hU; obtain ⟨rfl, hP, hC⟩ := hU; replace HP := Aside0.mk (hP); replace HC := Aside0.mk (Ch.trans HC.out.fr hC); clear hP hC
            go_wp2_with fail
            refine (next_calls b X s2 _ HP.out.fr).mono ?_; rintro e w1 ⟨rfl, hP, hC⟩; replace HP := Aside0.mk (hP); replace HC := Aside0.mk (Ch.trans HC.out.fr hC); clear hP hC
            go_wp2_with fail
            refine (is_calls b X 4 Pm.dot (Pm.nxt s2) _ HP.out.fr).mono ?_; rintro e w1 ⟨rfl, hb⟩; rw [HD.out]; replace HP := Aside0.mk (PAt.below HP.out.fr hb); replace HC := Aside0.mk (Ch.then_below HC.out.fr hb); clear hb
            go_wp2
            go_ret
            exact ⟨rfl, HP.out, HC.out⟩
         ·rw [if_neg z1] at H; cases H
       | false =>
        rw [if_neg Bool.false_ne_true] at H
        dsimp only at H
        by_cases z1 : t.size + n.size ≤ 140737488355328
        ·rw [if_pos z1] at H
         have ez := ByteArray.size_append (a := t) (b := n)
         have z1a : (9223372036854775807 < t.size + n.size) = False := eq_false (by omega)
         cases hd : Pm.is X.e 4 Pm.dot (Pm.nxt s1) with
         | true =>
          rw [hd, if_pos rfl] at H
          have HD := Aside0.mk hd
          clear hd
          by_cases z2 : t.size + n.size + 1 ≤ 140737488355328
          ·rw [if_pos z2] at H
           have z2a : (9223372036854775807 < t.size + n.size + 1) = False := eq_false (by omega)
           have H' := Aside0.mk H
           clear H z1 z2 ez
           go_wp2_with fail
           refine (named_calls b X k1 s' _ HU.out _ HP.out.fr).mono ?_; rintro e w1 ⟨rfl, hP, hC⟩; replace HP := Aside0.mk (hP); replace HC := Aside0.mk (Ch.trans HC.out.fr hC); clear hP hC
           go_wp2_with fail
           refine (next_calls b X s1 _ HP.out.fr).mono ?_; rintro e w1 ⟨rfl, hP, hC⟩; replace HP := Aside0.mk (hP); replace HC := Aside0.mk (Ch.trans HC.out.fr hC); clear hP hC
           go_wp2_with fail
           refine (is_calls b X 4 Pm.dot (Pm.nxt s1) _ HP.out.fr).mono ?_; rintro e w1 ⟨rfl, hb⟩; rw [HD.out]; replace HP := Aside0.mk (PAt.below HP.out.fr hb); replace HC := Aside0.mk (Ch.then_below HC.out.fr hb); clear hb
           go_wp2_with fail
           refine (next_calls b X (Pm.nxt s1) _ HP.out.fr).mono ?_; rintro e w1 ⟨rfl, hP, hC⟩; replace HP := Aside0.mk (hP); replace HC := Aside0.mk (Ch.trans HC.out.fr hC); clear hP hC
           go_wp2
           go_roundg k1
           case measure => have := HK1.out; omega
           case rel => exact ⟨_, _, _, rfl, rfl, H', ⟨by have := HK1.out; omega⟩, HP, HC⟩
          ·rw [if_neg z2] at H; cases H
         | false =>
          rw [hd, if_neg Bool.false_ne_true] at H
          have HD := Aside0.mk hd
          clear hd
          by_cases z2 : ((t ++ n).size : Int) > 255
          ·rw [if_pos z2] at H
           obtain rfl := Option.some.inj H
           have z2a : decide ((255 : Int) < (t.size : Int) + (n.size : Int)) = true := decide_eq_true (by omega)
           clear H z1 z2 ez
           go_wp2_with fail
           refine (named_calls b X k1 s' _ HU.out _ HP.out.fr).mono ?_; rintro e w1 ⟨rfl, hP, hC⟩; replace HP := Aside0.mk (hP); replace HC := Aside0.mk (Ch.trans HC.out.fr hC); clear hP hC
           go_wp2_with fail
           refine (next_calls b X s1 _ HP.out.fr).mono ?_; rintro e w1 ⟨rfl, hP, hC⟩; replace HP := Aside0.mk (hP); replace HC := Aside0.mk (Ch.trans HC.out.fr hC); clear hP hC
           go_wp2_with fail
           refine (is_calls b X 4 Pm.dot (Pm.nxt s1) _ HP.out.fr).mono ?_; rintro e w1 ⟨rfl, hb⟩; rw [HD.out]; replace HP := Aside0.mk (PAt.below HP.out.fr hb); replace HC := Aside0.mk (Ch.then_below HC.out.fr hb); clear hb
           go_wp2
           exact ⟨rfl, rfl, HC.out⟩
          ·rw [if_neg z2] at H
           obtain rfl := Option.some.inj H
           have z2a : decide ((255 : Int) < (t.size : Int) + (n.size : Int)) = false := decide_eq_false (by omega)
           clear H z1 z2 ez
           go_wp2_with fail
           refine (named_calls b X k1 s' _ HU.out _ HP.out.fr).mono ?_; rintro e w1 ⟨rfl, hP, hC⟩; replace HP := Aside0.mk (hP); replace HC := Aside0.mk (Ch.trans HC.out.fr hC); clear hP hC
           go_wp2_with fail
           refine (next_calls b X s1 _ HP.out.fr).mono ?_; rintro e w1 ⟨rfl, hP, hC⟩; replace HP := Aside0.mk (hP); replace HC := Aside0.mk (Ch.trans HC.out.fr hC); clear hP hC
           go_wp2_with fail
           refine (is_calls b X 4 Pm.dot (Pm.nxt s1) _ HP.out.fr).mono ?_; rintro e w1 ⟨rfl, hb⟩; rw [HD.out]; replace HP := Aside0.mk (PAt.below HP.out.fr hb); replace HC := Aside0.mk (Ch.then_below HC.out.fr hb); clear hb
           go_wp2
           go_ret
           exact ⟨rfl, HP.out, HC.out⟩
        ·rw [if_neg z1] at H; cases H
 ·rw [if_neg hd] at hr
  have HR := Aside0.mk hr
  clear hr
  cases dots with
  | true =>
   have hd0 : Pm.is X.e 4 Pm.dot s = false := by
    cases q : Pm.is X.e 4 Pm.dot s with
    | false => rfl
    | true => exact absurd ⟨rfl, q⟩ hd
   have HD0 := Aside0.mk hd0
   clear hd hd0
   go_enter Tryd.func65, Tryd.ntmps65
   go_wp2_with fail
   refine (now_calls b X s _ HP.out.fr).mono ?_; rintro e w1 ⟨rfl, hb⟩; replace HP := Aside0.mk (PAt.below HP.out.fr hb); replace HC := Aside0.mk (Ch.then_below HC.out.fr hb); clear hb
   go_wp2_with fail
   refine (is_calls b X 4 Pm.dot s _ HP.out.fr).mono ?_; rintro e w1 ⟨rfl, hb⟩; rw [HD0.out]; replace HP := Aside0.mk (PAt.below HP.out.fr hb); replace HC := Aside0.mk (Ch.then_below HC.out.fr hb); clear hb
   go_wp2
   go_loopg [2, 8] k (fun kq v2 v8 w' => ∃ (cn : Bool) (t : ByteArray) (s' : PS), v2 = .bool cn ∧ v8 = .string t ∧ Aside0 (Pm.namesL X.e (Pm.now X.e s).f1 kq cn t s' = some r) ∧ Aside0 (kq ≤ k) ∧ Aside0 (PAt b X w' s') ∧ Aside0 (Ch (· = b) W w'))
   case atStart => exact ⟨_, _, _, rfl, rfl, HR, ⟨Nat.le_refl _⟩, HP, HC⟩
   case round =>
    clear HR HP HC
    obtain ⟨cn, t, s', rfl, rfl, HR, HK1, HP, HC⟩ := hrel
    cases gk with
    | zero => exact absurd HR.out (by simp [Pm.namesL])
    | succ k1 =>
     have H := HR.out
     clear HR
     simp only [Pm.namesL] at H
     unfold Pm.bo at H
     cases hu : Pm.named k1 X.e s' with
     | none => rw [hu] at H; cases H
     | some u =>
      rw [hu] at H
      have HU := Aside0.mk hu
      clear hu
      cases u with
      | error x =>
       obtain rfl := Option.some.inj H
       clear H
       go_wp2_with fail
       refine (named_calls b X k1 s' _ HU.out _ HP.out.fr).mono ?_; rintro e w1 ⟨rfl, hC⟩; have n1_ := Aside0.mk (Ch.trans HC.out.fr hC); clear HC hC; have HC := n1_; clear n1_
       exact ⟨rfl, rfl, HC.out⟩
      | ok a =>
       obtain ⟨n, s1⟩ := a
       dsimp only at H
       cases cn with
       | true =>
        rw [if_pos rfl] at H
        cases hc : Pm.counts X.e s1 with
        | error x =>
         rw [hc] at H
         obtain rfl := Option.some.inj H
         have HCo := Aside0.mk hc
         clear H hc
         go_wp2_with fail
         refine (named_calls b X k1 s' _ HU.out _ HP.out.fr).mono ?_; rintro e w1 ⟨rfl, hP, hC⟩; replace HP := Aside0.mk (hP); replace HC := Aside0.mk (Ch.trans HC.out.fr hC); clear hP hC
         go_wp2_with fail
         refine (counts_calls b X s1 _ HP.out.fr).mono ?_; rintro e w1 hU; rw [HCo.out] at hU; obtain ⟨rfl, hC⟩ := hU; have n1_ := Aside0.mk (Ch.trans HC.out.fr hC); clear HC hC; have HC := n1_; clear n1_
         exact ⟨rfl, rfl, HC.out⟩
        | ok a =>
         obtain ⟨⟨⟩, s2⟩ := a
         rw [hc] at H
         dsimp only at H
         have HCo := Aside0.mk hc
         clear hc
         by_cases z1 : t.size + n.size ≤ 140737488355328
         ·rw [if_pos z1] at H
          have ez := ByteArray.size_append (a := t) (b := n)
          have z1a : (9223372036854775807 < t.size + n.size) = False := eq_false (by omega)
          cases hd : Pm.is X.e 4 Pm.dot (Pm.nxt s2) with
          | true =>
           rw [hd, if_pos rfl] at H
           have HD := Aside0.mk hd
           clear hd
           by_cases z2 : t.size + n.size + 1 ≤ 140737488355328
           ·rw [if_pos z2] at H
            have z2a : (9223372036854775807 < t.size + n.size + 1) = False := eq_false (by omega)
            have H' := Aside0.mk H
            clear H z1 z2 ez
            go_wp2_with fail
            refine (named_calls b X k1 s' _ HU.out _ HP.out.fr).mono ?_; rintro e w1 ⟨rfl, hP, hC⟩; replace HP := Aside0.mk (hP); replace HC := Aside0.mk (Ch.trans HC.out.fr hC); clear hP hC
            go_wp2_with fail
            refine (counts_calls b X s1 _ HP.out.fr).mono ?_; rintro e w1 hU; rw [HCo.out] at hU; obtain ⟨rfl, hP, hC⟩ := hU; replace HP := Aside0.mk (hP); replace HC := Aside0.mk (Ch.trans HC.out.fr hC); clear hP hC
            go_wp2_with fail
            refine (next_calls b X s2 _ HP.out.fr).mono ?_; rintro e w1 ⟨rfl, hP, hC⟩; replace HP := Aside0.mk (hP); replace HC := Aside0.mk (Ch.trans HC.out.fr hC); clear hP hC
            go_wp2_with fail
            refine (is_calls b X 4 Pm.dot (Pm.nxt s2) _ HP.out.fr).mono ?_; rintro e w1 ⟨rfl, hb⟩; rw [HD.out]; replace HP := Aside0.mk (PAt.below HP.out.fr hb); replace HC := Aside0.mk (Ch.then_below HC.out.fr hb); clear hb
            go_wp2_with fail
            refine (next_calls b X (Pm.nxt s2) _ HP.out.fr).mono ?_; rintro e w1 ⟨rfl, hP, hC⟩; replace HP := Aside0.mk (hP); replace HC := Aside0.mk (Ch.trans HC.out.fr hC); clear hP hC
            go_wp2
            go_roundg k1
            case measure => have := HK1.out; omega
            case rel => exact ⟨_, _, _, rfl, rfl, H', ⟨by have := HK1.out; omega⟩, HP, HC⟩
           ·rw [if_neg z2] at H; cases H
          | false =>
           rw [hd, if_neg Bool.false_ne_true] at H
           have HD := Aside0.mk hd
           clear hd
           by_cases z2 : ((t ++ n).size : Int) > 255
           ·rw [if_pos z2] at H
            obtain rfl := Option.some.inj H
            have z2a : decide ((255 : Int) < (t.size : Int) + (n.size : Int)) = true := decide_eq_true (by omega)
            clear H z1 z2 ez
            go_wp2_with fail
            refine (named_calls b X k1 s' _ HU.out _ HP.out.fr).mono ?_; rintro e w1 ⟨rfl, hP, hC⟩; replace HP := Aside0.mk (hP); replace HC := Aside0.mk (Ch.trans HC.out.fr hC); clear hP hC
            go_wp2_with fail
            refine (counts_calls b X s1 _ HP.out.fr).mono ?_; rintro e w1 hU; rw [HCo.out] at hU; obtain ⟨rfl, hP, hC⟩ := hU; replace HP := Aside0.mk (hP); replace HC := Aside0.mk (Ch.trans HC.out.fr hC); clear hP hC
            go_wp2_with fail
            refine (next_calls b X s2 _ HP.out.fr).mono ?_; rintro e w1 ⟨rfl, hP, hC⟩; replace HP := Aside0.mk (hP); replace HC := Aside0.mk (Ch.trans HC.out.fr hC); clear hP hC
            go_wp2_with fail
            refine (is_calls b X 4 Pm.dot (Pm.nxt s2) _ HP.out.fr).mono ?_; rintro e w1 ⟨rfl, hb⟩; rw [HD.out]; replace HP := Aside0.mk (PAt.below HP.out.fr hb); replace HC := Aside0.mk (Ch.then_below HC.out.fr hb); clear hb
            go_wp2
            exact ⟨rfl, rfl, HC.out⟩
           ·rw [if_neg z2] at H
            obtain rfl := Option.some.inj H
            have z2a : decide ((255 : Int) < (t.size : Int) + (n.size : Int)) = false := decide_eq_false (by omega)
            clear H z1 z2 ez
            go_wp2_with fail
            refine (named_calls b X k1 s' _ HU.out _ HP.out.fr).mono ?_; rintro e w1 ⟨rfl, hP, hC⟩; replace HP := Aside0.mk (hP); replace HC := Aside0.mk (Ch.trans HC.out.fr hC); clear hP hC
            go_wp2_with fail
            refine (counts_calls b X s1 _ HP.out.fr).mono ?_; rintro e w1 hU; rw [HCo.out] at hU; obtain ⟨rfl, hP, hC⟩ := hU; replace HP := Aside0.mk (hP); replace HC := Aside0.mk (Ch.trans HC.out.fr hC); clear hP hC
            go_wp2_with fail
            refine (next_calls b X s2 _ HP.out.fr).mono ?_; rintro e w1 ⟨rfl, hP, hC⟩; replace HP := Aside0.mk (hP); replace HC := Aside0.mk (Ch.trans HC.out.fr hC); clear hP hC
            go_wp2_with fail
            refine (is_calls b X 4 Pm.dot (Pm.nxt s2) _ HP.out.fr).mono ?_; rintro e w1 ⟨rfl, hb⟩; rw [HD.out]; replace HP := Aside0.mk (PAt.below HP.out.fr hb); replace HC := Aside0.mk (Ch.then_below HC.out.fr hb); clear hb
            go_wp2
            go_ret
            exact ⟨rfl, HP.out, HC.out⟩
         ·rw [if_neg z1] at H; cases H
       | false =>
        rw [if_neg Bool.false_ne_true] at H
        dsimp only at H
        by_cases z1 : t.size + n.size ≤ 140737488355328
        ·rw [if_pos z1] at H
         have ez := ByteArray.size_append (a := t) (b := n)
         have z1a : (9223372036854775807 < t.size + n.size) = False := eq_false (by omega)
         cases hd : Pm.is X.e 4 Pm.dot (Pm.nxt s1) with
         | true =>
          rw [hd, if_pos rfl] at H
          have HD := Aside0.mk hd
          clear hd
          by_cases z2 : t.size + n.size + 1 ≤ 140737488355328
          ·rw [if_pos z2] at H
           have z2a : (9223372036854775807 < t.size + n.size + 1) = False := eq_false (by omega)
           have H' := Aside0.mk H
           clear H z1 z2 ez
           go_wp2_with fail
           refine (named_calls b X k1 s' _ HU.out _ HP.out.fr).mono ?_; rintro e w1 ⟨rfl, hP, hC⟩; replace HP := Aside0.mk (hP); replace HC := Aside0.mk (Ch.trans HC.out.fr hC); clear hP hC
           go_wp2_with fail
           refine (next_calls b X s1 _ HP.out.fr).mono ?_; rintro e w1 ⟨rfl, hP, hC⟩; replace HP := Aside0.mk (hP); replace HC := Aside0.mk (Ch.trans HC.out.fr hC); clear hP hC
           go_wp2_with fail
           refine (is_calls b X 4 Pm.dot (Pm.nxt s1) _ HP.out.fr).mono ?_; rintro e w1 ⟨rfl, hb⟩; rw [HD.out]; replace HP := Aside0.mk (PAt.below HP.out.fr hb); replace HC := Aside0.mk (Ch.then_below HC.out.fr hb); clear hb
           go_wp2_with fail
           refine (next_calls b X (Pm.nxt s1) _ HP.out.fr).mono ?_; rintro e w1 ⟨rfl, hP, hC⟩; replace HP := Aside0.mk (hP); replace HC := Aside0.mk (Ch.trans HC.out.fr hC); clear hP hC
           go_wp2
           go_roundg k1
           case measure => have := HK1.out; omega
           case rel => exact ⟨_, _, _, rfl, rfl, H', ⟨by have := HK1.out; omega⟩, HP, HC⟩
          ·rw [if_neg z2] at H; cases H
         | false =>
          rw [hd, if_neg Bool.false_ne_true] at H
          have HD := Aside0.mk hd
          clear hd
          by_cases z2 : ((t ++ n).size : Int) > 255
          ·rw [if_pos z2] at H
           obtain rfl := Option.some.inj H
           have z2a : decide ((255 : Int) < (t.size : Int) + (n.size : Int)) = true := decide_eq_true (by omega)
           clear H z1 z2 ez
           go_wp2_with fail
           refine (named_calls b X k1 s' _ HU.out _ HP.out.fr).mono ?_; rintro e w1 ⟨rfl, hP, hC⟩; replace HP := Aside0.mk (hP); replace HC := Aside0.mk (Ch.trans HC.out.fr hC); clear hP hC
           go_wp2_with fail
           refine (next_calls b X s1 _ HP.out.fr).mono ?_; rintro e w1 ⟨rfl, hP, hC⟩; replace HP := Aside0.mk (hP); replace HC := Aside0.mk (Ch.trans HC.out.fr hC); clear hP hC
           go_wp2_with fail
           refine (is_calls b X 4 Pm.dot (Pm.nxt s1) _ HP.out.fr).mono ?_; rintro e w1 ⟨rfl, hb⟩; rw [HD.out]; replace HP := Aside0.mk (PAt.below HP.out.fr hb); replace HC := Aside0.mk (Ch.then_below HC.out.fr hb); clear hb
           go_wp2
           exact ⟨rfl, rfl, HC.out⟩
          ·rw [if_neg z2] at H
           obtain rfl := Option.some.inj H
           have z2a : decide ((255 : Int) < (t.size : Int) + (n.size : Int)) = false := decide_eq_false (by omega)
           clear H z1 z2 ez
           go_wp2_with fail
           refine (named_calls b X k1 s' _ HU.out _ HP.out.fr).mono ?_; rintro e w1 ⟨rfl, hP, hC⟩; replace HP := Aside0.mk (hP); replace HC := Aside0.mk (Ch.trans HC.out.fr hC); clear hP hC
           go_wp2_with fail
           refine (next_calls b X s1 _ HP.out.fr).mono ?_; rintro e w1 ⟨rfl, hP, hC⟩; replace HP := Aside0.mk (hP); replace HC := Aside0.mk (Ch.trans HC.out.fr hC); clear hP hC
           go_wp2_with fail
           refine (is_calls b X 4 Pm.dot (Pm.nxt s1) _ HP.out.fr).mono ?_; rintro e w1 ⟨rfl, hb⟩; rw [HD.out]; replace HP := Aside0.mk (PAt.below HP.out.fr hb); replace HC := Aside0.mk (Ch.then_below HC.out.fr hb); clear hb
           go_wp2
           go_ret
           exact ⟨rfl, HP.out, HC.out⟩
        ·rw [if_neg z1] at H; cases H
  | false =>
   clear hd
   go_enter Tryd.func65, Tryd.ntmps65
   go_wp2_with fail
   refine (now_calls b X s _ HP.out.fr).mono ?_; rintro e w1 ⟨rfl, hb⟩; replace HP := Aside0.mk (PAt.below HP.out.fr hb); replace HC := Aside0.mk (Ch.then_below HC.out.fr hb); clear hb
   go_wp2
   go_loopg [2, 8] k (fun kq v2 v8 w' => ∃ (cn : Bool) (t : ByteArray) (s' : PS), v2 = .bool cn ∧ v8 = .string t ∧ Aside0 (Pm.namesL X.e (Pm.now X.e s).f1 kq cn t s' = some r) ∧ Aside0 (kq ≤ k) ∧ Aside0 (PAt b X w' s') ∧ Aside0 (Ch (· = b) W w'))
   case atStart => exact ⟨_, _, _, rfl, rfl, HR, ⟨Nat.le_refl _⟩, HP, HC⟩
   case round =>
    clear HR HP HC
    obtain ⟨cn, t, s', rfl, rfl, HR, HK1, HP, HC⟩ := hrel
    cases gk with
    | zero => exact absurd HR.out (by simp [Pm.namesL])
    | succ k1 =>
     have H := HR.out
     clear HR
     simp only [Pm.namesL] at H
     unfold Pm.bo at H
     cases hu : Pm.named k1 X.e s' with
     | none => rw [hu] at H; cases H
     | some u =>
      rw [hu] at H
      have HU := Aside0.mk hu
      clear hu
      cases u with
      | error x =>
       obtain rfl := Option.some.inj H
       clear H
       go_wp2_with fail
       refine (named_calls b X k1 s' _ HU.out _ HP.out.fr).mono ?_; rintro e w1 ⟨rfl, hC⟩; have n1_ := Aside0.mk (Ch.trans HC.out.fr hC); clear HC hC; have HC := n1_; clear n1_
       exact ⟨rfl, rfl, HC.out⟩
      | ok a =>
       obtain ⟨n, s1⟩ := a
       dsimp only at H
       cases cn with
       | true =>
        rw [if_pos rfl] at H
        cases hc : Pm.counts X.e s1 with
        | error x =>
         rw [hc] at H
         obtain rfl := Option.some.inj H
         have HCo := Aside0.mk hc
         clear H hc
         go_wp2_with fail
         refine (named_calls b X k1 s' _ HU.out _ HP.out.fr).mono ?_; rintro e w1 ⟨rfl, hP, hC⟩; replace HP := Aside0.mk (hP); replace HC := Aside0.mk (Ch.trans HC.out.fr hC); clear hP hC
         go_wp2_with fail
         refine (counts_calls b X s1 _ HP.out.fr).mono ?_; rintro e w1 hU; rw [HCo.out] at hU; obtain ⟨rfl, hC⟩ := hU; have n1_ := Aside0.mk (Ch.trans HC.out.fr hC); clear HC hC; have HC := n1_; clear n1_
         exact ⟨rfl, rfl, HC.out⟩
        | ok a =>
         obtain ⟨⟨⟩, s2⟩ := a
         rw [hc] at H
         dsimp only at H
         have HCo := Aside0.mk hc
         clear hc
         by_cases z1 : t.size + n.size ≤ 140737488355328
         ·rw [if_pos z1] at H
          have ez := ByteArray.size_append (a := t) (b := n)
          have z1a : (9223372036854775807 < t.size + n.size) = False := eq_false (by omega)
          cases hd : Pm.is X.e 4 Pm.dot (Pm.nxt s2) with
          | true =>
           rw [hd, if_pos rfl] at H
           have HD := Aside0.mk hd
           clear hd
           by_cases z2 : t.size + n.size + 1 ≤ 140737488355328
           ·rw [if_pos z2] at H
            have z2a : (9223372036854775807 < t.size + n.size + 1) = False := eq_false (by omega)
            have H' := Aside0.mk H
            clear H z1 z2 ez
            go_wp2_with fail
            refine (named_calls b X k1 s' _ HU.out _ HP.out.fr).mono ?_; rintro e w1 ⟨rfl, hP, hC⟩; replace HP := Aside0.mk (hP); replace HC := Aside0.mk (Ch.trans HC.out.fr hC); clear hP hC
            go_wp2_with fail
            refine (counts_calls b X s1 _ HP.out.fr).mono ?_; rintro e w1 hU; rw [HCo.out] at hU; obtain ⟨rfl, hP, hC⟩ := hU; replace HP := Aside0.mk (hP); replace HC := Aside0.mk (Ch.trans HC.out.fr hC); clear hP hC
            go_wp2_with fail
            refine (next_calls b X s2 _ HP.out.fr).mono ?_; rintro e w1 ⟨rfl, hP, hC⟩; replace HP := Aside0.mk (hP); replace HC := Aside0.mk (Ch.trans HC.out.fr hC); clear hP hC
            go_wp2_with fail
            refine (is_calls b X 4 Pm.dot (Pm.nxt s2) _ HP.out.fr).mono ?_; rintro e w1 ⟨rfl, hb⟩; rw [HD.out]; replace HP := Aside0.mk (PAt.below HP.out.fr hb); replace HC := Aside0.mk (Ch.then_below HC.out.fr hb); clear hb
            go_wp2_with fail
            refine (next_calls b X (Pm.nxt s2) _ HP.out.fr).mono ?_; rintro e w1 ⟨rfl, hP, hC⟩; replace HP := Aside0.mk (hP); replace HC := Aside0.mk (Ch.trans HC.out.fr hC); clear hP hC
            go_wp2
            go_roundg k1
            case measure => have := HK1.out; omega
            case rel => exact ⟨_, _, _, rfl, rfl, H', ⟨by have := HK1.out; omega⟩, HP, HC⟩
           ·rw [if_neg z2] at H; cases H
          | false =>
           rw [hd, if_neg Bool.false_ne_true] at H
           have HD := Aside0.mk hd
           clear hd
           by_cases z2 : ((t ++ n).size : Int) > 255
           ·rw [if_pos z2] at H
            obtain rfl := Option.some.inj H
            have z2a : decide ((255 : Int) < (t.size : Int) + (n.size : Int)) = true := decide_eq_true (by omega)
            clear H z1 z2 ez
            go_wp2_with fail
            refine (named_calls b X k1 s' _ HU.out _ HP.out.fr).mono ?_; rintro e w1 ⟨rfl, hP, hC⟩; replace HP := Aside0.mk (hP); replace HC := Aside0.mk (Ch.trans HC.out.fr hC); clear hP hC
            go_wp2_with fail
            refine (counts_calls b X s1 _ HP.out.fr).mono ?_; rintro e w1 hU; rw [HCo.out] at hU; obtain ⟨rfl, hP, hC⟩ := hU; replace HP := Aside0.mk (hP); replace HC := Aside0.mk (Ch.trans HC.out.fr hC); clear hP hC
            go_wp2_with fail
            refine (next_calls b X s2 _ HP.out.fr).mono ?_; rintro e w1 ⟨rfl, hP, hC⟩; replace HP := Aside0.mk (hP); replace HC := Aside0.mk (Ch.trans HC.out.fr hC); clear hP hC
            go_wp2_with fail
            refine (is_calls b X 4 Pm.dot (Pm.nxt s2) _ HP.out.fr).mono ?_; rintro e w1 ⟨rfl, hb⟩; rw [HD.out]; replace HP := Aside0.mk (PAt.below HP.out.fr hb); replace HC := Aside0.mk (Ch.then_below HC.out.fr hb); clear hb
            go_wp2
            exact ⟨rfl, rfl, HC.out⟩
           ·rw [if_neg z2] at H
            obtain rfl := Option.some.inj H
            have z2a : decide ((255 : Int) < (t.size : Int) + (n.size : Int)) = false := decide_eq_false (by omega)
            clear H z1 z2 ez
            go_wp2_with fail
            refine (named_calls b X k1 s' _ HU.out _ HP.out.fr).mono ?_; rintro e w1 ⟨rfl, hP, hC⟩; replace HP := Aside0.mk (hP); replace HC := Aside0.mk (Ch.trans HC.out.fr hC); clear hP hC
            go_wp2_with fail
            refine (counts_calls b X s1 _ HP.out.fr).mono ?_; rintro e w1 hU; rw [HCo.out] at hU; obtain ⟨rfl, hP, hC⟩ := hU; replace HP := Aside0.mk (hP); replace HC := Aside0.mk (Ch.trans HC.out.fr hC); clear hP hC
            go_wp2_with fail
            refine (next_calls b X s2 _ HP.out.fr).mono ?_; rintro e w1 ⟨rfl, hP, hC⟩; replace HP := Aside0.mk (hP); replace HC := Aside0.mk (Ch.trans HC.out.fr hC); clear hP hC
            go_wp2_with fail
            refine (is_calls b X 4 Pm.dot (Pm.nxt s2) _ HP.out.fr).mono ?_; rintro e w1 ⟨rfl, hb⟩; rw [HD.out]; replace HP := Aside0.mk (PAt.below HP.out.fr hb); replace HC := Aside0.mk (Ch.then_below HC.out.fr hb); clear hb
            go_wp2
            go_ret
            exact ⟨rfl, HP.out, HC.out⟩
         ·rw [if_neg z1] at H; cases H
       | false =>
        rw [if_neg Bool.false_ne_true] at H
        dsimp only at H
        by_cases z1 : t.size + n.size ≤ 140737488355328
        ·rw [if_pos z1] at H
         have ez := ByteArray.size_append (a := t) (b := n)
         have z1a : (9223372036854775807 < t.size + n.size) = False := eq_false (by omega)
         cases hd : Pm.is X.e 4 Pm.dot (Pm.nxt s1) with
         | true =>
          rw [hd, if_pos rfl] at H
          have HD := Aside0.mk hd
          clear hd
          by_cases z2 : t.size + n.size + 1 ≤ 140737488355328
          ·rw [if_pos z2] at H
           have z2a : (9223372036854775807 < t.size + n.size + 1) = False := eq_false (by omega)
           have H' := Aside0.mk H
           clear H z1 z2 ez
           go_wp2_with fail
           refine (named_calls b X k1 s' _ HU.out _ HP.out.fr).mono ?_; rintro e w1 ⟨rfl, hP, hC⟩; replace HP := Aside0.mk (hP); replace HC := Aside0.mk (Ch.trans HC.out.fr hC); clear hP hC
           go_wp2_with fail
           refine (next_calls b X s1 _ HP.out.fr).mono ?_; rintro e w1 ⟨rfl, hP, hC⟩; replace HP := Aside0.mk (hP); replace HC := Aside0.mk (Ch.trans HC.out.fr hC); clear hP hC
           go_wp2_with fail
           refine (is_calls b X 4 Pm.dot (Pm.nxt s1) _ HP.out.fr).mono ?_; rintro e w1 ⟨rfl, hb⟩; rw [HD.out]; replace HP := Aside0.mk (PAt.below HP.out.fr hb); replace HC := Aside0.mk (Ch.then_below HC.out.fr hb); clear hb
           go_wp2_with fail
           refine (next_calls b X (Pm.nxt s1) _ HP.out.fr).mono ?_; rintro e w1 ⟨rfl, hP, hC⟩; replace HP := Aside0.mk (hP); replace HC := Aside0.mk (Ch.trans HC.out.fr hC); clear hP hC
           go_wp2
           go_roundg k1
           case measure => have := HK1.out; omega
           case rel => exact ⟨_, _, _, rfl, rfl, H', ⟨by have := HK1.out; omega⟩, HP, HC⟩
          ·rw [if_neg z2] at H; cases H
         | false =>
          rw [hd, if_neg Bool.false_ne_true] at H
          have HD := Aside0.mk hd
          clear hd
          by_cases z2 : ((t ++ n).size : Int) > 255
          ·rw [if_pos z2] at H
           obtain rfl := Option.some.inj H
           have z2a : decide ((255 : Int) < (t.size : Int) + (n.size : Int)) = true := decide_eq_true (by omega)
           clear H z1 z2 ez
           go_wp2_with fail
           refine (named_calls b X k1 s' _ HU.out _ HP.out.fr).mono ?_; rintro e w1 ⟨rfl, hP, hC⟩; replace HP := Aside0.mk (hP); replace HC := Aside0.mk (Ch.trans HC.out.fr hC); clear hP hC
           go_wp2_with fail
           refine (next_calls b X s1 _ HP.out.fr).mono ?_; rintro e w1 ⟨rfl, hP, hC⟩; replace HP := Aside0.mk (hP); replace HC := Aside0.mk (Ch.trans HC.out.fr hC); clear hP hC
           go_wp2_with fail
           refine (is_calls b X 4 Pm.dot (Pm.nxt s1) _ HP.out.fr).mono ?_; rintro e w1 ⟨rfl, hb⟩; rw [HD.out]; replace HP := Aside0.mk (PAt.below HP.out.fr hb); replace HC := Aside0.mk (Ch.then_below HC.out.fr hb); clear hb
           go_wp2
           exact ⟨rfl, rfl, HC.out⟩
          ·rw [if_neg z2] at H
           obtain rfl := Option.some.inj H
           have z2a : decide ((255 : Int) < (t.size : Int) + (n.size : Int)) = false := decide_eq_false (by omega)
           clear H z1 z2 ez
           go_wp2_with fail
           refine (named_calls b X k1 s' _ HU.out _ HP.out.fr).mono ?_; rintro e w1 ⟨rfl, hP, hC⟩; replace HP := Aside0.mk (hP); replace HC := Aside0.mk (Ch.trans HC.out.fr hC); clear hP hC
           go_wp2_with fail
           refine (next_calls b X s1 _ HP.out.fr).mono ?_; rintro e w1 ⟨rfl, hP, hC⟩; replace HP := Aside0.mk (hP); replace HC := Aside0.mk (Ch.trans HC.out.fr hC); clear hP hC
           go_wp2_with fail
           refine (is_calls b X 4 Pm.dot (Pm.nxt s1) _ HP.out.fr).mono ?_; rintro e w1 ⟨rfl, hb⟩; rw [HD.out]; replace HP := Aside0.mk (PAt.below HP.out.fr hb); replace HC := Aside0.mk (Ch.then_below HC.out.fr hb); clear hb
           go_wp2
           go_ret
           exact ⟨rfl, HP.out, HC.out⟩
        ·rw [if_neg z1] at H; cases H
end Go.Proofs.YtgkodenllfpajaaDoor.A
end
section
namespace Go.Proofs.YtgkodenllfpajaaDoor.A
open Go.RowKit Go.Proofs.YtgkodenllfpajaaDoorW.PrintWords Go.Proofs.YtgkodenllfpajaaDoorW.PrintLast Go.Proofs.YtgkodenllfpajaaDoorW.PrintMore
set_option linter.unusedVariables false
set_option linter.unusedSimpArgs false
def okL (bm b : Nat) (L : List Value) (k : Nat) : Prop := k ≠ bm ∧ k ≠ b ∧ ∀ v ∈ L, some k ≠ v.ownBlock
def SM (b base : Nat) (k : Nat) : Prop := k = b ∨ base ≤ k
theorem row_other {α : Type} {d : Kd α} {e : Nat} {W W1 : World} {base bm b : Nat} {L L' : List Value} {v vi v1 : Value} {xs : List α} (h : d.R e W base (okL bm b L) v xs) (hv : vi ∈ L) (hg : W.grownBy W1 vi.ownBlock) (hat : v1.ownBlock = vi.ownBlock ∨ ∃ g, v1.ownBlock = some g ∧ W.heap.size ≤ g) (hL : ∀ u ∈ L', u ∈ L ∨ u = v1) : d.R e W1 base (okL bm b L') v xs := by
 refine Kd.R_mono (Kd.R_grown (Kd.R_bound h) hg (fun k hk => hk.1.2.2 vi hv)) (fun k hk => ⟨hk.1.1, hk.1.2.1, fun u hu => ?_⟩)
 rcases hL u hu with h1 | rfl
 ·exact hk.1.2.2 u h1
 ·rcases hat with hat | ⟨g, hat, hge⟩
  ·rw [hat]; exact hk.1.2.2 vi hv
  ·rw [hat]
   intro he
   injection he with he
   have := hk.2.2.1
   omega
theorem row_ch {α : Type} {d : Kd α} {e : Nat} {W W1 : World} {base bm b : Nat} {L : List Value} {v : Value} {xs : List α} {S : Nat → Prop} (h : d.R e W base (okL bm b L) v xs) (hc : Ch S W W1) (hS : ∀ k, base ≤ k → k ≠ bm → k ≠ b → k < W.heap.size → ¬ S k) : d.R e W1 base (okL bm b L) v xs :=
 Kd.R_mono (Kd.R_step (Kd.R_bound h) (fun k hk hlt => hc.block k hlt (hS k hk.2.1 hk.1.1 hk.1.2.1 hlt))) (fun _ hk => hk.1)
theorem row_lt {α : Type} {d : Kd α} {e : Nat} {W : World} {base : Nat} {ok : Nat → Prop} {v : Value} {xs : List α} (h : d.R e W base ok v xs) : ∀ k, v.ownBlock = some k → k < W.heap.size ∧ base ≤ k := by
 intro k hk
 obtain ⟨_, inner, ho, _⟩ := h
 exact ⟨own_lt ho k hk, own_base ho k hk⟩
theorem row_fresh {bm b : Nat} {L : List Value} {W : World} (h1 : bm < W.heap.size) (h2 : b < W.heap.size) (h : ∀ v ∈ L, ∀ k, v.ownBlock = some k → k < W.heap.size) : ∀ k, W.heap.size ≤ k → okL bm b L k :=
 fun k hk => ⟨by omega, by omega, fun v hv he => by have := h v hv k he.symm; omega⟩
def MInv (base b bm : Nat) (W : World) (m : PMsg) : Prop :=
 ∃ v1 v2 v3 v4 v5 v6, W.heap[bm]? = some (.cells #[.string m.f0, v1, v2, v3, v4, v5, v6] 48 (0, 0)) ∧ (base ≤ bm ∧ b < base) ∧
  k44.R 44 W base (okL bm b [v2, v3, v4, v5, v6]) v1 m.f1 ∧ Kd.string.R 9 W base (okL bm b [v1, v3, v4, v5, v6]) v2 m.f2 ∧
  k48.R 48 W base (okL bm b [v1, v2, v4, v5, v6]) v3 m.f3 ∧ k77.R 77 W base (okL bm b [v1, v2, v3, v5, v6]) v4 m.f4 ∧
  k116.R 116 W base (okL bm b [v1, v2, v3, v4, v6]) v5 m.f5 ∧ Kd.string.R 9 W base (okL bm b [v1, v2, v3, v4, v5]) v6 m.f6
theorem MInv.ch {base b bm : Nat} {W W1 : World} {m : PMsg} {S : Nat → Prop} (h : MInv base b bm W m) (hc : Ch S W W1) (hS : ∀ k, base ≤ k → k ≠ b → k < W.heap.size → ¬ S k) : MInv base b bm W1 m := by
 obtain ⟨v1, v2, v3, v4, v5, v6, h0, hb, r1, r2, r3, r4, r5, r6⟩ := h
 have hlt := (Array.getElem?_eq_some_iff.1 h0).1
 exact ⟨v1, v2, v3, v4, v5, v6, (hc.block bm hlt (hS bm hb.1 (by omega) hlt)).trans h0, hb, row_ch r1 hc (fun k h1 _ h2 h3 => hS k h1 h2 h3), row_ch r2 hc (fun k h1 _ h2 h3 => hS k h1 h2 h3), row_ch r3 hc (fun k h1 _ h2 h3 => hS k h1 h2 h3), row_ch r4 hc (fun k h1 _ h2 h3 => hS k h1 h2 h3), row_ch r5 hc (fun k h1 _ h2 h3 => hS k h1 h2 h3), row_ch r6 hc (fun k h1 _ h2 h3 => hS k h1 h2 h3)⟩
theorem MInv.b {base b bm : Nat} {W W1 : World} {m : PMsg} (h : MInv base b bm W m) (hc : Ch (· = b) W W1) : MInv base b bm W1 m := h.ch hc (fun _ _ h _ => h)
theorem MInv.lt {base b bm : Nat} {W : World} {m : PMsg} (h : MInv base b bm W m) : bm < W.heap.size ∧ base ≤ bm ∧ b < base := by
 obtain ⟨v1, v2, v3, v4, v5, v6, h0, hb, _⟩ := h
 exact ⟨(Array.getElem?_eq_some_iff.1 h0).1, hb⟩
theorem PAt.st {b g j : Nat} {X : PFix} {W : World} {s : PS} (h : PAt b X W s) (hg : b < g ∧ X.B ≤ b) (u : Value) : PAt b X (W.setCell ⟨g, j, none⟩ u) s :=
 h.ch (Ch.set (S := fun k => k = g) (Ch.refl _ W) (fun _ => rfl) u) (fun e => by omega) (fun k hk e => by omega)
theorem PAt.ge {b : Nat} {X : PFix} {W : World} {s : PS} (h : PAt b X W s) : X.B ≤ b := by
 obtain ⟨A, c, _, _, _, h, _⟩ := h
 exact h
theorem Ch.st {b g j B : Nat} {w w1 : World} (h : Ch (SM b B) w w1) (hg : B ≤ g) (u : Value) : Ch (SM b B) w (w1.setCell ⟨g, j, none⟩ u) := Ch.set h (fun _ => .inr hg) u
theorem Ch.sm {b B : Nat} {w w1 : World} (h : Ch (· = b) w w1) : Ch (SM b B) w w1 := h.mono (fun _ _ h => .inl h)
theorem MInv.sm {base b bm : Nat} {W W1 : World} {m : PMsg} (h : MInv base b bm W m) (hc : Ch (SM b W.heap.size) W W1) : MInv base b bm W1 m :=
 h.ch hc (fun k _ h1 h2 h3 => h3.elim h1 (fun h => by omega))
theorem info_fld : (Tryd.prog.info? 44).map (fun i => (i.zero, i.size, i.bytes)) = some (some (.agg #[(.int .i64 0), (.string ⟨#[]⟩), (.string ⟨#[]⟩), (.string ⟨#[]⟩), (.int .i64 0), (.int .i64 0)]), 6, 72) := by kernel_rfl
theorem info_str : (Tryd.prog.info? 9).map (fun i => (i.zero, i.size, i.bytes)) = some (some (.string ⟨#[]⟩), 1, 16) := by kernel_rfl
theorem info_rng : (Tryd.prog.info? 116).map (fun i => (i.zero, i.size, i.bytes)) = some (some (.agg #[(.int .i64 0), (.int .i64 0)]), 2, 16) := by kernel_rfl
theorem info_val : (Tryd.prog.info? 79).map (fun i => (i.zero, i.size, i.bytes)) = some (some (.agg #[(.string ⟨#[]⟩), (.int .i64 0)]), 2, 24) := by kernel_rfl
theorem info_enm : (Tryd.prog.info? 77).map (fun i => (i.zero, i.size, i.bytes)) = some (some (.agg #[(.string ⟨#[]⟩), (.slice none 0 0), (.slice none 0 0), (.slice none 0 0)]), 4, 88) := by kernel_rfl
theorem info_msg : (Tryd.prog.info? 48).map (fun i => (i.zero, i.size, i.bytes)) = some (some (.agg #[(.string ⟨#[]⟩), (.slice none 0 0), (.slice none 0 0), (.slice none 0 0), (.slice none 0 0), (.slice none 0 0), (.slice none 0 0)]), 7, 160) := by kernel_rfl
theorem bo_cases {α β : Type} {x : Option (PR α)} {f : α → PS → Option (PR β)} {r : PR β} (h : Pm.bo x f = some r) : (∃ y, x = some (.error y) ∧ r = .error y) ∨ ∃ a s, x = some (.ok (a, s)) ∧ f a s = some r := by
 unfold Pm.bo at h
 split at h
 ·cases h
 ·exact .inl ⟨_, rfl, (Option.some.inj h).symm⟩
 ·exact .inr ⟨_, _, rfl, h⟩
theorem PAt.al {b : Nat} {X : PFix} {W : World} {s : PS} (h : PAt b X W s) (o : Obj) : PAt b X (W.alloc o) s := h.below (below_alloc (Below.refl _ _) o)
theorem PAt.dn {b : Nat} {X : PFix} {W : World} {s : PS} (h : PAt b X W s) (n : Nat) : PAt b X (W.drewN n) s := h.below (pw_below_drewN (Below.refl _ _) n)
theorem PAt.dr {b : Nat} {X : PFix} {W : World} {s : PS} (h : PAt b X W s) : PAt b X W.drew s := h.below (below_drew (Below.refl _ _))
theorem Ch.stg {S : Nat → Prop} {w w1 : World} {g j : Nat} (h : Ch S w w1) (hg : w.heap.size ≤ g) (u : Value) : Ch S w (w1.setCell ⟨g, j, none⟩ u) := Ch.set h (fun h => absurd h (Nat.not_lt.mpr hg)) u
theorem bx_al {W : World} {b : Nat} {v : Obj} (h : W.heap[b]? = some v) (o : Obj) : (W.alloc o).heap[b]? = some v :=
 ((below_alloc (Below.refl W.heap.size W) o).block b (Array.getElem?_eq_some_iff.1 h).1).trans h
theorem bx_dn {W : World} {b : Nat} {v : Obj} (h : W.heap[b]? = some v) (n : Nat) : (W.drewN n).heap[b]? = some v :=
 ((pw_below_drewN (Below.refl W.heap.size W) n).block b (Array.getElem?_eq_some_iff.1 h).1).trans h
theorem bx_dr {W : World} {b : Nat} {v : Obj} (h : W.heap[b]? = some v) : W.drew.heap[b]? = some v :=
 ((below_drew (Below.refl W.heap.size W)).block b (Array.getElem?_eq_some_iff.1 h).1).trans h
theorem bx_st {W : World} {b g j : Nat} {v : Obj} (h : W.heap[b]? = some v) (hg : g ≠ b) (u : Value) : (W.setCell ⟨g, j, none⟩ u).heap[b]? = some v :=
 (Below.heap_setCell W ⟨g, j, none⟩ u b (fun e => hg e.symm)).trans h
theorem MInv.app_fld {base b bm : Nat} {W w9 : World} {m : PMsg} {v1 v2 v3 v4 v5 v6 v9 : Value} {l9 : List PField} (h0 : W.heap[bm]? = some (.cells #[.string m.f0, v1, v2, v3, v4, v5, v6] 48 (0, 0))) (hb : base ≤ bm ∧ b < base)
  (r2 : Kd.string.R 9 W base (okL bm b [v1, v3, v4, v5, v6]) v2 m.f2) (r3 : k48.R 48 W base (okL bm b [v1, v2, v4, v5, v6]) v3 m.f3) (r4 : k77.R 77 W base (okL bm b [v1, v2, v3, v5, v6]) v4 m.f4) (r5 : k116.R 116 W base (okL bm b [v1, v2, v3, v4, v6]) v5 m.f5) (r6 : Kd.string.R 9 W base (okL bm b [v1, v2, v3, v4, v5]) v6 m.f6) (r9 : k44.R 44 w9 base (okL bm b [v2, v3, v4, v5, v6]) v9 l9) (hg : W.grownBy w9 v1.ownBlock) (hat : v9.ownBlock = v1.ownBlock ∨ ∃ g, v9.ownBlock = some g ∧ W.heap.size ≤ g) (hne : some bm ≠ v1.ownBlock) :
  MInv base b bm (w9.setCell ⟨bm, 1, none⟩ v9) { m with f1 := l9 } := by
 have hlt := (Array.getElem?_eq_some_iff.1 h0).1
 exact ⟨v9, v2, v3, v4, v5, v6, by simpa using pset ((hg.block bm hlt hne).trans h0) 1 v9, hb, Kd.R_far r9 (fun k hk => hk.1) _, Kd.R_far (row_other (L' := [v9, v3, v4, v5, v6]) r2 (by simp) hg hat (by simp)) (fun k hk => hk.1) _, Kd.R_far (row_other (L' := [v9, v2, v4, v5, v6]) r3 (by simp) hg hat (by simp)) (fun k hk => hk.1) _, Kd.R_far (row_other (L' := [v9, v2, v3, v5, v6]) r4 (by simp) hg hat (by simp)) (fun k hk => hk.1) _, Kd.R_far (row_other (L' := [v9, v2, v3, v4, v6]) r5 (by simp) hg hat (by simp)) (fun k hk => hk.1) _, Kd.R_far (row_other (L' := [v9, v2, v3, v4, v5]) r6 (by simp) hg hat (by simp)) (fun k hk => hk.1) _⟩
theorem MInv.app_str {base b bm : Nat} {W w9 : World} {m : PMsg} {v1 v2 v3 v4 v5 v6 v9 : Value} {l9 : List ByteArray} (h0 : W.heap[bm]? = some (.cells #[.string m.f0, v1, v2, v3, v4, v5, v6] 48 (0, 0))) (hb : base ≤ bm ∧ b < base)
  (r1 : k44.R 44 W base (okL bm b [v2, v3, v4, v5, v6]) v1 m.f1) (r3 : k48.R 48 W base (okL bm b [v1, v2, v4, v5, v6]) v3 m.f3) (r4 : k77.R 77 W base (okL bm b [v1, v2, v3, v5, v6]) v4 m.f4) (r5 : k116.R 116 W base (okL bm b [v1, v2, v3, v4, v6]) v5 m.f5) (r6 : Kd.string.R 9 W base (okL bm b [v1, v2, v3, v4, v5]) v6 m.f6) (r9 : Kd.string.R 9 w9 base (okL bm b [v1, v3, v4, v5, v6]) v9 l9) (hg : W.grownBy w9 v2.ownBlock) (hat : v9.ownBlock = v2.ownBlock ∨ ∃ g, v9.ownBlock = some g ∧ W.heap.size ≤ g) (hne : some bm ≠ v2.ownBlock) :
  MInv base b bm (w9.setCell ⟨bm, 2, none⟩ v9) { m with f2 := l9 } := by
 have hlt := (Array.getElem?_eq_some_iff.1 h0).1
 exact ⟨v1, v9, v3, v4, v5, v6, by simpa using pset ((hg.block bm hlt hne).trans h0) 2 v9, hb, Kd.R_far (row_other (L' := [v9, v3, v4, v5, v6]) r1 (by simp) hg hat (by simp)) (fun k hk => hk.1) _, Kd.R_far r9 (fun k hk => hk.1) _, Kd.R_far (row_other (L' := [v1, v9, v4, v5, v6]) r3 (by simp) hg hat (by simp)) (fun k hk => hk.1) _, Kd.R_far (row_other (L' := [v1, v9, v3, v5, v6]) r4 (by simp) hg hat (by simp)) (fun k hk => hk.1) _, Kd.R_far (row_other (L' := [v1, v9, v3, v4, v6]) r5 (by simp) hg hat (by simp)) (fun k hk => hk.1) _, Kd.R_far (row_other (L' := [v1, v9, v3, v4, v5]) r6 (by simp) hg hat (by simp)) (fun k hk => hk.1) _⟩
theorem MInv.app_enm {base b bm : Nat} {W w9 : World} {m : PMsg} {v1 v2 v3 v4 v5 v6 v9 : Value} {l9 : List PEnum} (h0 : W.heap[bm]? = some (.cells #[.string m.f0, v1, v2, v3, v4, v5, v6] 48 (0, 0))) (hb : base ≤ bm ∧ b < base)
  (r1 : k44.R 44 W base (okL bm b [v2, v3, v4, v5, v6]) v1 m.f1) (r2 : Kd.string.R 9 W base (okL bm b [v1, v3, v4, v5, v6]) v2 m.f2) (r3 : k48.R 48 W base (okL bm b [v1, v2, v4, v5, v6]) v3 m.f3) (r5 : k116.R 116 W base (okL bm b [v1, v2, v3, v4, v6]) v5 m.f5) (r6 : Kd.string.R 9 W base (okL bm b [v1, v2, v3, v4, v5]) v6 m.f6) (r9 : k77.R 77 w9 base (okL bm b [v1, v2, v3, v5, v6]) v9 l9) (hg : W.grownBy w9 v4.ownBlock) (hat : v9.ownBlock = v4.ownBlock ∨ ∃ g, v9.ownBlock = some g ∧ W.heap.size ≤ g) (hne : some bm ≠ v4.ownBlock) :
  MInv base b bm (w9.setCell ⟨bm, 4, none⟩ v9) { m with f4 := l9 } := by
 have hlt := (Array.getElem?_eq_some_iff.1 h0).1
 exact ⟨v1, v2, v3, v9, v5, v6, by simpa using pset ((hg.block bm hlt hne).trans h0) 4 v9, hb, Kd.R_far (row_other (L' := [v2, v3, v9, v5, v6]) r1 (by simp) hg hat (by simp)) (fun k hk => hk.1) _, Kd.R_far (row_other (L' := [v1, v3, v9, v5, v6]) r2 (by simp) hg hat (by simp)) (fun k hk => hk.1) _, Kd.R_far (row_other (L' := [v1, v2, v9, v5, v6]) r3 (by simp) hg hat (by simp)) (fun k hk => hk.1) _, Kd.R_far r9 (fun k hk => hk.1) _, Kd.R_far (row_other (L' := [v1, v2, v3, v9, v6]) r5 (by simp) hg hat (by simp)) (fun k hk => hk.1) _, Kd.R_far (row_other (L' := [v1, v2, v3, v9, v5]) r6 (by simp) hg hat (by simp)) (fun k hk => hk.1) _⟩
theorem MInv.app1 {base b bm : Nat} {W : World} {m : PMsg} (h : MInv base b bm W m) : ∃ v L, (W.cell? ⟨bm, 1, none⟩ = some v ∧ (∀ j, W.frozen? ⟨bm, j, none⟩ = false) ∧ bm < W.heap.size) ∧ k44.R 44 W base (okL bm b L) v m.f1 ∧ (∀ k, W.heap.size ≤ k → okL bm b L k) ∧ base ≤ W.heap.size ∧ (∀ k, v.ownBlock = some k → k < W.heap.size) ∧
  ∀ w9 v9 l9, k44.R 44 w9 base (okL bm b L) v9 l9 → W.grownBy w9 v.ownBlock → (v9.ownBlock = v.ownBlock ∨ ∃ g, v9.ownBlock = some g ∧ W.heap.size ≤ g) →
   (w9.cell? ⟨bm, 1, none⟩ = some v ∧ (∀ j, w9.frozen? ⟨bm, j, none⟩ = false) ∧ bm < w9.heap.size) ∧ MInv base b bm (w9.setCell ⟨bm, 1, none⟩ v9) { m with f1 := l9 } ∧ Ch (fun k => base ≤ k) W (w9.setCell ⟨bm, 1, none⟩ v9) := by
 obtain ⟨v1, v2, v3, v4, v5, v6, h0, hb, r1, r2, r3, r4, r5, r6⟩ := h
 have g0 := pcell h0
 have hne : some bm ≠ v1.ownBlock := fun e => (r1.1 bm e.symm).1 rfl
 have hblt : b < W.heap.size := by have := g0.2.2; have := hb.1; omega
 refine ⟨v1, [v2, v3, v4, v5, v6], ⟨g0.1 1 _ rfl, g0.2.1, g0.2.2⟩, r1, row_fresh g0.2.2 hblt ?_, Nat.le_trans hb.1 (Nat.le_of_lt g0.2.2), fun k hk => (row_lt r1 k hk).1, fun w9 v9 l9 r9 hg hat => ⟨?_, ?_, ?_⟩⟩
 ·intro v hv k hk
  simp only [List.mem_cons, List.not_mem_nil, or_false] at hv
  rcases hv with rfl | rfl | rfl | rfl | rfl
  all_goals first | exact (row_lt r1 k hk).1 | exact (row_lt r2 k hk).1 | exact (row_lt r3 k hk).1 | exact (row_lt r4 k hk).1 | exact (row_lt r5 k hk).1 | exact (row_lt r6 k hk).1
 ·have g9 := pcell ((hg.block bm g0.2.2 hne).trans h0)
  exact ⟨g9.1 1 _ rfl, g9.2.1, g9.2.2⟩
 ·exact MInv.app_fld h0 hb r2 r3 r4 r5 r6 r9 hg hat hne
 ·exact Ch.set (Ch.then_grown (Ch.refl _ W) hg (fun k _ e => (row_lt r1 k e).2)) (fun _ => hb.1) _
theorem MInv.app2 {base b bm : Nat} {W : World} {m : PMsg} (h : MInv base b bm W m) : ∃ v L, (W.cell? ⟨bm, 2, none⟩ = some v ∧ (∀ j, W.frozen? ⟨bm, j, none⟩ = false) ∧ bm < W.heap.size) ∧ Kd.string.R 9 W base (okL bm b L) v m.f2 ∧ (∀ k, W.heap.size ≤ k → okL bm b L k) ∧ base ≤ W.heap.size ∧ (∀ k, v.ownBlock = some k → k < W.heap.size) ∧
  ∀ w9 v9 l9, Kd.string.R 9 w9 base (okL bm b L) v9 l9 → W.grownBy w9 v.ownBlock → (v9.ownBlock = v.ownBlock ∨ ∃ g, v9.ownBlock = some g ∧ W.heap.size ≤ g) →
   (w9.cell? ⟨bm, 2, none⟩ = some v ∧ (∀ j, w9.frozen? ⟨bm, j, none⟩ = false) ∧ bm < w9.heap.size) ∧ MInv base b bm (w9.setCell ⟨bm, 2, none⟩ v9) { m with f2 := l9 } ∧ Ch (fun k => base ≤ k) W (w9.setCell ⟨bm, 2, none⟩ v9) := by
 obtain ⟨v1, v2, v3, v4, v5, v6, h0, hb, r1, r2, r3, r4, r5, r6⟩ := h
 have g0 := pcell h0
 have hne : some bm ≠ v2.ownBlock := fun e => (r2.1 bm e.symm).1 rfl
 have hblt : b < W.heap.size := by have := g0.2.2; have := hb.1; omega
 refine ⟨v2, [v1, v3, v4, v5, v6], ⟨g0.1 2 _ rfl, g0.2.1, g0.2.2⟩, r2, row_fresh g0.2.2 hblt ?_, Nat.le_trans hb.1 (Nat.le_of_lt g0.2.2), fun k hk => (row_lt r2 k hk).1, fun w9 v9 l9 r9 hg hat => ⟨?_, ?_, ?_⟩⟩
 ·intro v hv k hk
  simp only [List.mem_cons, List.not_mem_nil, or_false] at hv
  rcases hv with rfl | rfl | rfl | rfl | rfl
  all_goals first | exact (row_lt r1 k hk).1 | exact (row_lt r2 k hk).1 | exact (row_lt r3 k hk).1 | exact (row_lt r4 k hk).1 | exact (row_lt r5 k hk).1 | exact (row_lt r6 k hk).1
 ·have g9 := pcell ((hg.block bm g0.2.2 hne).trans h0)
  exact ⟨g9.1 2 _ rfl, g9.2.1, g9.2.2⟩
 ·exact MInv.app_str h0 hb r1 r3 r4 r5 r6 r9 hg hat hne
 ·exact Ch.set (Ch.then_grown (Ch.refl _ W) hg (fun k _ e => (row_lt r2 k e).2)) (fun _ => hb.1) _
theorem MInv.app4 {base b bm : Nat} {W : World} {m : PMsg} (h : MInv base b bm W m) : ∃ v L, (W.cell? ⟨bm, 4, none⟩ = some v ∧ (∀ j, W.frozen? ⟨bm, j, none⟩ = false) ∧ bm < W.heap.size) ∧ k77.R 77 W base (okL bm b L) v m.f4 ∧ (∀ k, W.heap.size ≤ k → okL bm b L k) ∧ base ≤ W.heap.size ∧ (∀ k, v.ownBlock = some k → k < W.heap.size) ∧
  ∀ w9 v9 l9, k77.R 77 w9 base (okL bm b L) v9 l9 → W.grownBy w9 v.ownBlock → (v9.ownBlock = v.ownBlock ∨ ∃ g, v9.ownBlock = some g ∧ W.heap.size ≤ g) →
   (w9.cell? ⟨bm, 4, none⟩ = some v ∧ (∀ j, w9.frozen? ⟨bm, j, none⟩ = false) ∧ bm < w9.heap.size) ∧ MInv base b bm (w9.setCell ⟨bm, 4, none⟩ v9) { m with f4 := l9 } ∧ Ch (fun k => base ≤ k) W (w9.setCell ⟨bm, 4, none⟩ v9) := by
 obtain ⟨v1, v2, v3, v4, v5, v6, h0, hb, r1, r2, r3, r4, r5, r6⟩ := h
 have g0 := pcell h0
 have hne : some bm ≠ v4.ownBlock := fun e => (r4.1 bm e.symm).1 rfl
 have hblt : b < W.heap.size := by have := g0.2.2; have := hb.1; omega
 refine ⟨v4, [v1, v2, v3, v5, v6], ⟨g0.1 4 _ rfl, g0.2.1, g0.2.2⟩, r4, row_fresh g0.2.2 hblt ?_, Nat.le_trans hb.1 (Nat.le_of_lt g0.2.2), fun k hk => (row_lt r4 k hk).1, fun w9 v9 l9 r9 hg hat => ⟨?_, ?_, ?_⟩⟩
 ·intro v hv k hk
  simp only [List.mem_cons, List.not_mem_nil, or_false] at hv
  rcases hv with rfl | rfl | rfl | rfl | rfl
  all_goals first | exact (row_lt r1 k hk).1 | exact (row_lt r2 k hk).1 | exact (row_lt r3 k hk).1 | exact (row_lt r4 k hk).1 | exact (row_lt r5 k hk).1 | exact (row_lt r6 k hk).1
 ·have g9 := pcell ((hg.block bm g0.2.2 hne).trans h0)
  exact ⟨g9.1 4 _ rfl, g9.2.1, g9.2.2⟩
 ·exact MInv.app_enm h0 hb r1 r2 r3 r5 r6 r9 hg hat hne
 ·exact Ch.set (Ch.then_grown (Ch.refl _ W) hg (fun k _ e => (row_lt r4 k e).2)) (fun _ => hb.1) _
theorem R_slice3 {α : Type} {d : Kd α} {e base : Nat} {ok : Nat → Prop} {w : World} {v : Value} {xs : List α} (h : d.R e w base ok v xs) : ∃ A n c, v = .slice A n c := by
 obtain ⟨A, c, h⟩ := Kd.R_slice h
 exact ⟨A, _, c, h⟩
theorem PAt.far {base b : Nat} {X : PFix} {W W' : World} {s : PS} (h : PAt b X W s) (hc : Ch (fun k => base ≤ k) W W') (hb : b < base) : PAt b X W' s :=
 h.ch hc (fun (h : base ≤ b) => by omega) (fun k hk (h' : base ≤ k) => by have := h.ge; omega)
theorem Ch.far {base b : Nat} {w w1 : World} (h : Ch (fun k => base ≤ k) w w1) : Ch (SM b base) w w1 := h.mono (fun _ _ h => .inr h)
def PostM (base b bm : Nat) (X : PFix) (W : World) (r : PR PMsg) (e : Ending) (w' : World) : Prop :=
 match r with
 | .ok (m, s) => e = .returned (.tuple #[]) ∧ PAt b X w' s ∧ MInv base b bm w' m ∧ Ch (SM b base) W w'
 | .error x => e = thrown x.1 x.2 ∧ Ch (SM b base) W w'
def addF (m : PMsg) (r : PR PField) : PR PMsg := match r with | .ok (f, s) => .ok ({ m with f1 := m.f1 ++ [f] }, s) | .error x => .error x
end Go.Proofs.YtgkodenllfpajaaDoor.A
end
section
namespace Go.Proofs.YtgkodenllfpajaaDoor.A
open Go.RowKit Go.Proofs.YtgkodenllfpajaaDoorW.PrintWords Go.Proofs.YtgkodenllfpajaaDoorW.PrintLast Go.Proofs.YtgkodenllfpajaaDoorW.PrintMore
set_option linter.unusedVariables false
set_option linter.unusedSimpArgs false
set_option maxHeartbeats 4000000 in
set_option maxRecDepth 100000 in
theorem rest_calls (base b bm : Nat) (X : PFix) (k : Nat) (f : PField) (m : PMsg) (s : PS) (r : PR PField) (hr : Pm.rest k X.e f s = some r) (hl : ∀ a, r = .ok a → m.f1.length < 1099511627776) (W : World) (h : PAt b X W s) (hM : MInv base b bm W m) :
  Calls Tryd.prog 89 #[.pointer (some ⟨b, 0, none⟩), .pointer (some ⟨bm, 0, none⟩), .agg #[.int .i64 f.f0, .string f.f1, .string f.f2, .string f.f3, .int .i64 f.f4, .int .i64 f.f5]] W (PostM base b bm X W (addF m r)) := by
 have HG := Aside0.mk (show b < W.heap.size ∧ X.B ≤ b ∧ W.heap.size ≤ W.heap.size from ⟨h.lt, h.ge, Nat.le_refl _⟩)
 have HX := Aside0.mk (blk_new W (.cells #[.int .i64 f.f0, .string f.f1, .string f.f2, .string f.f3, .int .i64 f.f4, .int .i64 f.f5] 44))
 have HP := Aside0.mk h
 have HM := Aside0.mk hM
 have HC := Aside0.mk (Ch.refl (· = b) W)
 have HL := Aside0.mk hl
 have HR := Aside0.mk (show Pm.rest k X.e f s = some r from hr)
 clear h hM hl hr
 unfold Pm.rest at HR
 go_enter Tryd.func89, Tryd.ntmps89
 go_wp2_with fail
 rcases bo_cases HR.out with ⟨y, hy, hr2⟩ | ⟨n, s1, hy, hr2⟩; (clear HR; subst hr2; refine (name_calls b X k s _ hy _ (by with_reducible repeat (first | exact HP.out | apply PAt.al | apply PAt.dn | apply PAt.dr | refine PAt.st ?_ ⟨HG.out.1, HG.out.2.1⟩ _))).mono ?_; rintro e w1 ⟨rfl, hC⟩; exact ⟨rfl, rfl, Ch.sm (Ch.trans (by with_reducible repeat (first | exact HC.out | apply Ch.alloc | apply Ch.drewN | apply Ch.drew | refine Ch.stg ?_ HG.out.2.2 _)) hC)⟩); ((try dsimp only at hr2); clear HR; have HR := Aside0.mk hr2; clear hr2; refine (name_calls b X k s _ hy _ (by with_reducible repeat (first | exact HP.out | apply PAt.al | apply PAt.dn | apply PAt.dr | refine PAt.st ?_ ⟨HG.out.1, HG.out.2.1⟩ _))).mono ?_; rintro e w1 ⟨rfl, hP, hC⟩; have n0_ := Aside0.mk hP; have n1_ := Aside0.mk (Ch.trans (by with_reducible repeat (first | exact HC.out | apply Ch.alloc | apply Ch.drewN | apply Ch.drew | refine Ch.stg ?_ HG.out.2.2 _)) hC); have nx_ := Aside0.mk ((hC.block _ (pcell (HX.out)).2.2 (fun e_ => Nat.ne_of_gt HG.out.1 e_)).trans (HX.out)); clear hP hC hy; (try clear HP); clear HC; have HP := n0_; have HC := n1_; clear n0_ n1_; (try clear HX); have HX := nx_; clear nx_)
 obtain ⟨bx1, bxf, bx3⟩ := pcell HX.out; have x0 := bx1 0 _ rfl; have f0 := bxf 0; have x1 := bx1 1 _ rfl; have f1 := bxf 1; have x2 := bx1 2 _ rfl; have f2 := bxf 2; have x3 := bx1 3 _ rfl; have f3 := bxf 3; have x4 := bx1 4 _ rfl; have f4 := bxf 4; have x5 := bx1 5 _ rfl; have f5 := bxf 5; clear bx1 bxf
 go_wp2_with fail
 clear bx3 x0 f0 x1 f1 x2 f2 x3 f3 x4 f4 x5 f5
 rcases bo_cases HR.out with ⟨y, hy, hr2⟩ | ⟨⟨⟩, s2, hy, hr2⟩; (clear HR; subst hr2; refine (sign_calls b X ⟨#[61]⟩ s1 _ (by with_reducible repeat (first | exact HP.out | apply PAt.al | apply PAt.dn | apply PAt.dr | refine PAt.st ?_ ⟨HG.out.1, HG.out.2.1⟩ _))).mono ?_; rintro e w1 hU; rw [(Option.some.inj hy : Pm.sign X.e ⟨#[61]⟩ s1 = _)] at hU; obtain ⟨rfl, hC⟩ := hU; exact ⟨rfl, rfl, Ch.sm (Ch.trans (by with_reducible repeat (first | exact HC.out | apply Ch.alloc | apply Ch.drewN | apply Ch.drew | refine Ch.stg ?_ HG.out.2.2 _)) hC)⟩); ((try dsimp only at hr2); clear HR; have HR := Aside0.mk hr2; clear hr2; refine (sign_calls b X ⟨#[61]⟩ s1 _ (by with_reducible repeat (first | exact HP.out | apply PAt.al | apply PAt.dn | apply PAt.dr | refine PAt.st ?_ ⟨HG.out.1, HG.out.2.1⟩ _))).mono ?_; rintro e w1 hU; rw [(Option.some.inj hy : Pm.sign X.e ⟨#[61]⟩ s1 = _)] at hU; obtain ⟨rfl, hP, hC⟩ := hU; have n0_ := Aside0.mk hP; have n1_ := Aside0.mk (Ch.trans (by with_reducible repeat (first | exact HC.out | apply Ch.alloc | apply Ch.drewN | apply Ch.drew | refine Ch.stg ?_ HG.out.2.2 _)) hC); have nx_ := Aside0.mk ((hC.block _ (pcell (pset HX.out 3 _)).2.2 (fun e_ => Nat.ne_of_gt HG.out.1 e_)).trans (pset HX.out 3 _)); clear hP hC hy; (try clear HP); clear HC; have HP := n0_; have HC := n1_; clear n0_ n1_; (try clear HX); have HX := nx_; clear nx_)
 go_wp2_with fail
 rcases bo_cases HR.out with ⟨y, hy, hr2⟩ | ⟨v, s3, hy, hr2⟩; (clear HR; subst hr2; refine (number_calls b X k false s2 _ hy _ (by with_reducible repeat (first | exact HP.out | apply PAt.al | apply PAt.dn | apply PAt.dr | refine PAt.st ?_ ⟨HG.out.1, HG.out.2.1⟩ _))).mono ?_; rintro e w1 ⟨rfl, hC⟩; exact ⟨rfl, rfl, Ch.sm (Ch.trans (by with_reducible repeat (first | exact HC.out | apply Ch.alloc | apply Ch.drewN | apply Ch.drew | refine Ch.stg ?_ HG.out.2.2 _)) hC)⟩); ((try dsimp only at hr2); clear HR; have HR := Aside0.mk hr2; clear hr2; refine (number_calls b X k false s2 _ hy _ (by with_reducible repeat (first | exact HP.out | apply PAt.al | apply PAt.dn | apply PAt.dr | refine PAt.st ?_ ⟨HG.out.1, HG.out.2.1⟩ _))).mono ?_; rintro e w1 ⟨rfl, hP, hC⟩; have n0_ := Aside0.mk hP; have n1_ := Aside0.mk (Ch.trans (by with_reducible repeat (first | exact HC.out | apply Ch.alloc | apply Ch.drewN | apply Ch.drew | refine Ch.stg ?_ HG.out.2.2 _)) hC); have nx_ := Aside0.mk ((hC.block _ (pcell (HX.out)).2.2 (fun e_ => Nat.ne_of_gt HG.out.1 e_)).trans (HX.out)); clear hP hC hy; (try clear HP); clear HC; have HP := n0_; have HC := n1_; clear n0_ n1_; (try clear HX); have HX := nx_; clear nx_)
 obtain ⟨bx1, bxf, bx3⟩ := pcell HX.out; have x0 := bx1 0 _ rfl; have f0 := bxf 0; have x1 := bx1 1 _ rfl; have f1 := bxf 1; have x2 := bx1 2 _ rfl; have f2 := bxf 2; have x3 := bx1 3 _ rfl; have f3 := bxf 3; have x4 := bx1 4 _ rfl; have f4 := bxf 4; have x5 := bx1 5 _ rfl; have f5 := bxf 5; clear bx1 bxf
 go_wp2_with fail
 clear bx3 x0 f0 x1 f1 x2 f2 x3 f3 x4 f4 x5 f5
 refine (next_calls b X s3 _ (by with_reducible repeat (first | exact HP.out | apply PAt.al | apply PAt.dn | apply PAt.dr | refine PAt.st ?_ ⟨HG.out.1, HG.out.2.1⟩ _))).mono ?_; rintro e w1 ⟨rfl, hP, hC⟩; have n0_ := Aside0.mk hP; have n1_ := Aside0.mk (Ch.trans (by with_reducible repeat (first | exact HC.out | apply Ch.alloc | apply Ch.drewN | apply Ch.drew | refine Ch.stg ?_ HG.out.2.2 _)) hC); have nx_ := Aside0.mk ((hC.block _ (pcell (pset HX.out 4 _)).2.2 (fun e_ => Nat.ne_of_gt HG.out.1 e_)).trans (pset HX.out 4 _)); clear HP HC hP hC; have HP := n0_; have HC := n1_; clear n0_ n1_; (try clear HX); have HX := nx_; clear nx_
 go_wp2_with fail
 rcases bo_cases HR.out with ⟨y, hy, hr2⟩ | ⟨⟨⟩, s4, hy, hr2⟩; (clear HR; subst hr2; refine (closes_calls b X (Pm.nxt s3) _ (by with_reducible repeat (first | exact HP.out | apply PAt.al | apply PAt.dn | apply PAt.dr | refine PAt.st ?_ ⟨HG.out.1, HG.out.2.1⟩ _))).mono ?_; rintro e w1 hU; rw [(Option.some.inj hy : Pm.closes X.e (Pm.nxt s3) = _)] at hU; obtain ⟨rfl, hC⟩ := hU; exact ⟨rfl, rfl, Ch.sm (Ch.trans (by with_reducible repeat (first | exact HC.out | apply Ch.alloc | apply Ch.drewN | apply Ch.drew | refine Ch.stg ?_ HG.out.2.2 _)) hC)⟩); ((try dsimp only at hr2); clear HR; have HR := Aside0.mk hr2; clear hr2; refine (closes_calls b X (Pm.nxt s3) _ (by with_reducible repeat (first | exact HP.out | apply PAt.al | apply PAt.dn | apply PAt.dr | refine PAt.st ?_ ⟨HG.out.1, HG.out.2.1⟩ _))).mono ?_; rintro e w1 hU; rw [(Option.some.inj hy : Pm.closes X.e (Pm.nxt s3) = _)] at hU; obtain ⟨rfl, hP, hC⟩ := hU; have n0_ := Aside0.mk hP; have n1_ := Aside0.mk (Ch.trans (by with_reducible repeat (first | exact HC.out | apply Ch.alloc | apply Ch.drewN | apply Ch.drew | refine Ch.stg ?_ HG.out.2.2 _)) hC); have nx_ := Aside0.mk ((hC.block _ (pcell (HX.out)).2.2 (fun e_ => Nat.ne_of_gt HG.out.1 e_)).trans (HX.out)); clear hP hC hy; (try clear HP); clear HC; have HP := n0_; have HC := n1_; clear n0_ n1_; (try clear HX); have HX := nx_; clear nx_)
 obtain rfl := Option.some.inj HR.out
 clear HR
 have HX2 := Aside0.mk (show w1.heap[W.heap.size]? = some (.cells #[.int .i64 f.f0, .string f.f1, .string f.f2, .string n, .int .i64 v, .int .i64 f.f5] 44) from HX.out)
 clear HX
 have HX := HX2
 clear HX2
 obtain ⟨bx1, bxf, bx3⟩ := pcell HX.out; have x0 := bx1 0 _ rfl; have f0 := bxf 0; have x1 := bx1 1 _ rfl; have f1 := bxf 1; have x2 := bx1 2 _ rfl; have f2 := bxf 2; have x3 := bx1 3 _ rfl; have f3 := bxf 3; have x4 := bx1 4 _ rfl; have f4 := bxf 4; have x5 := bx1 5 _ rfl; have f5 := bxf 5; clear bx1 bxf
 obtain ⟨v1, L, h1, hr1, hf1, hbs1, hlt1, hn1⟩ := MInv.app1 (MInv.b HM.out (Ch.drew HC.out)); have q1 : w1.cell? ⟨bm, 1, none⟩ = some v1 := h1.1; have g1 : w1.frozen? ⟨bm, 1, none⟩ = false := h1.2.1 1; have l1 : bm < w1.heap.size := h1.2.2; have HR1 := Aside0.mk hr1; have HF1 := Aside0.mk hf1; have HS1 := Aside0.mk hbs1; have HT1 := Aside0.mk hlt1; have HN1 := Aside0.mk hn1; clear h1 hr1 hf1 hbs1 hlt1 hn1; go_wp2; go_region_law ((refine Kd.R_append_step k44 (w0 := w1.drew) (W := w1.drew) base rfl (.tmp 22) (.tmp 24) 45 44 (.agg #[(.int .i64 0), (.string ⟨#[]⟩), (.string ⟨#[]⟩), (.string ⟨#[]⟩), (.int .i64 0), (.int .i64 0)]) 72 rfl Tryd.underlying45 info_fld rfl (by decide) (by decide) v1 m.f1 ({ f with f3 := n, f4 := v } : PField) [.int .i64 f.f0, .string f.f1, .string f.f2, .string n, .int .i64 v, .int .i64 f.f5] (okL bm b L) (fun _ => False) (by simp [Act.eval, Act.put]) (by simp [Act.eval, Act.put]) (k44_mkM _ _ _ ({ f with f3 := n, f4 := v } : PField)) (fun _ hk => hk.elim) HF1.out HR1.out (Below.refl _ _) HS1.out (by have := HL.out _ rfl; omega) ?_; intro v9 w9 ho hb hg hat; obtain ⟨A9, n9, c9, rfl⟩ := R_slice3 ho; obtain ⟨h9, hm9, hc9⟩ := HN1.out _ _ _ ho hg hat; have HM9 := Aside0.mk hm9; have HC9 := Aside0.mk hc9; have q9 : w9.cell? ⟨bm, 1, none⟩ = some v1 := h9.1; have g9 : w9.frozen? ⟨bm, 1, none⟩ = false := h9.2.1 1; clear ho hb hg hat h9 hm9 hc9))
 all_goals go_end0
 all_goals exact ⟨rfl, PAt.far (PAt.dr HP.out) HC9.out HM.out.lt.2.2, HM9.out, (Ch.sm (Ch.drew HC.out)).trans HC9.out.far⟩
theorem field_calls (base b bm : Nat) (X : PFix) (k : Nat) (f : PField) (counted : Bool) (m : PMsg) (s : PS) (r : PR PField) (hr : Pm.field k X.e f counted s = some r) (hl : ∀ a, r = .ok a → m.f1.length < 1099511627776) (W : World) (h : PAt b X W s) (hM : MInv base b bm W m) :
  Calls Tryd.prog 77 #[.pointer (some ⟨b, 0, none⟩), .pointer (some ⟨bm, 0, none⟩), .agg #[.int .i64 f.f0, .string f.f1, .string f.f2, .string f.f3, .int .i64 f.f4, .int .i64 f.f5], .bool counted] W (PostM base b bm X W (addF m r)) := by
 have HG := Aside0.mk (show b < W.heap.size ∧ X.B ≤ b ∧ W.heap.size ≤ W.heap.size from ⟨h.lt, h.ge, Nat.le_refl _⟩)
 have HX := Aside0.mk (blk_new W (.cells #[.int .i64 f.f0, .string f.f1, .string f.f2, .string f.f3, .int .i64 f.f4, .int .i64 f.f5] 44))
 have HP := Aside0.mk h
 have HM := Aside0.mk hM
 have HC := Aside0.mk (Ch.refl (· = b) W)
 have HL := Aside0.mk hl
 have HR := Aside0.mk hr
 clear h hM hl hr
 unfold Pm.field at HR
 go_enter Tryd.func77, Tryd.ntmps77
 go_wp2_with fail
 rcases bo_cases HR.out with ⟨y, hy, hr2⟩ | ⟨t, s1, hy, hr2⟩; (clear HR; subst hr2; refine (names_calls b X k true counted s _ hy _ (by with_reducible repeat (first | exact HP.out | apply PAt.al | apply PAt.dn | apply PAt.dr | refine PAt.st ?_ ⟨HG.out.1, HG.out.2.1⟩ _))).mono ?_; rintro e w1 ⟨rfl, hC⟩; exact ⟨rfl, rfl, Ch.sm (Ch.trans (by with_reducible repeat (first | exact HC.out | apply Ch.alloc | apply Ch.drewN | apply Ch.drew | refine Ch.stg ?_ HG.out.2.2 _)) hC)⟩); ((try dsimp only at hr2); clear HR; have HR := Aside0.mk hr2; clear hr2; refine (names_calls b X k true counted s _ hy _ (by with_reducible repeat (first | exact HP.out | apply PAt.al | apply PAt.dn | apply PAt.dr | refine PAt.st ?_ ⟨HG.out.1, HG.out.2.1⟩ _))).mono ?_; rintro e w1 ⟨rfl, hP, hC⟩; have n0_ := Aside0.mk hP; have n1_ := Aside0.mk (Ch.trans (by with_reducible repeat (first | exact HC.out | apply Ch.alloc | apply Ch.drewN | apply Ch.drew | refine Ch.stg ?_ HG.out.2.2 _)) hC); have nx_ := Aside0.mk ((hC.block _ (pcell (HX.out)).2.2 (fun e_ => Nat.ne_of_gt HG.out.1 e_)).trans (HX.out)); clear hP hC hy; (try clear HP); clear HC; have HP := n0_; have HC := n1_; clear n0_ n1_; (try clear HX); have HX := nx_; clear nx_)
 obtain ⟨bx1, bxf, bx3⟩ := pcell HX.out; have x0 := bx1 0 _ rfl; have f0 := bxf 0; have x1 := bx1 1 _ rfl; have f1 := bxf 1; have x2 := bx1 2 _ rfl; have f2 := bxf 2; have x3 := bx1 3 _ rfl; have f3 := bxf 3; have x4 := bx1 4 _ rfl; have f4 := bxf 4; have x5 := bx1 5 _ rfl; have f5 := bxf 5; clear bx1 bxf
 go_wp2_with fail
 clear bx3 x0 f0 x1 f1 x2 f2 x3 f3 x4 f4 x5 f5
 refine (rest_calls base b bm X k { f with f2 := t } m s1 r HR.out HL.out _ (by with_reducible repeat (first | exact HP.out | apply PAt.al | apply PAt.dn | apply PAt.dr | refine PAt.st ?_ ⟨HG.out.1, HG.out.2.1⟩ _)) (MInv.b HM.out (by with_reducible repeat (first | exact HC.out | apply Ch.alloc | apply Ch.drewN | apply Ch.drew | refine Ch.stg ?_ HG.out.2.2 _)))).mono ?_; rintro e w1 hU; rcases r with y | ⟨f', s'⟩; (obtain ⟨rfl, hC⟩ := hU; exact ⟨rfl, rfl, (Ch.sm (by with_reducible repeat (first | exact HC.out | apply Ch.alloc | apply Ch.drewN | apply Ch.drew | refine Ch.stg ?_ HG.out.2.2 _))).trans hC⟩); (obtain ⟨rfl, hP, hM, hC⟩ := hU; have n0_ := Aside0.mk hP; have n1_ := Aside0.mk ((Ch.sm (by with_reducible repeat (first | exact HC.out | apply Ch.alloc | apply Ch.drewN | apply Ch.drew | refine Ch.stg ?_ HG.out.2.2 _)) : Ch (SM b base) W _).trans hC); have n2_ := Aside0.mk hM; clear hP hC hM HP HC HM; go_wp2; go_end0; exact ⟨rfl, n0_.out, n2_.out, n1_.out⟩)
set_option maxHeartbeats 4000000 in
set_option maxRecDepth 100000 in
theorem table_calls (base b bm : Nat) (X : PFix) (k : Nat) (m : PMsg) (s : PS) (r : PR PField) (hr : Pm.table k X.e s = some r) (hl : ∀ a, r = .ok a → m.f1.length < 1099511627776) (W : World) (h : PAt b X W s) (hM : MInv base b bm W m) :
  Calls Tryd.prog 86 #[.pointer (some ⟨b, 0, none⟩), .pointer (some ⟨bm, 0, none⟩)] W (PostM base b bm X W (addF m r)) := by
 have HP := Aside0.mk h
 have HM := Aside0.mk hM
 have HC := Aside0.mk (Ch.refl (· = b) W)
 have HL := Aside0.mk hl
 have HR := Aside0.mk hr
 clear h hM hl hr
 unfold Pm.table at HR
 have HG := Aside0.mk True.intro
 go_enter Tryd.func86, Tryd.ntmps86
 go_wp2_with fail
 rcases bo_cases HR.out with ⟨y, hy, hr2⟩ | ⟨⟨⟩, s1, hy, hr2⟩; (clear HR; subst hr2; refine (counts_calls b X s _ (by with_reducible repeat (first | exact HP.out | apply PAt.al | apply PAt.dn | apply PAt.dr | refine PAt.st ?_ ⟨HG.out.1, HG.out.2.1⟩ _))).mono ?_; rintro e w1 hU; rw [(Option.some.inj hy : Pm.counts X.e s = _)] at hU; obtain ⟨rfl, hC⟩ := hU; exact ⟨rfl, rfl, Ch.sm (Ch.trans (by with_reducible repeat (first | exact HC.out | apply Ch.alloc | apply Ch.drewN | apply Ch.drew | refine Ch.stg ?_ HG.out.2.2 _)) hC)⟩); ((try dsimp only at hr2); clear HR; have HR := Aside0.mk hr2; clear hr2; refine (counts_calls b X s _ (by with_reducible repeat (first | exact HP.out | apply PAt.al | apply PAt.dn | apply PAt.dr | refine PAt.st ?_ ⟨HG.out.1, HG.out.2.1⟩ _))).mono ?_; rintro e w1 hU; rw [(Option.some.inj hy : Pm.counts X.e s = _)] at hU; obtain ⟨rfl, hP, hC⟩ := hU; have n0_ := Aside0.mk hP; have n1_ := Aside0.mk (Ch.trans (by with_reducible repeat (first | exact HC.out | apply Ch.alloc | apply Ch.drewN | apply Ch.drew | refine Ch.stg ?_ HG.out.2.2 _)) hC); clear hP hC hy; (try clear HP); clear HC; have HP := n0_; have HC := n1_; clear n0_ n1_)
 go_wp2_with fail
 refine (next_calls b X s1 _ (by with_reducible repeat (first | exact HP.out | apply PAt.al | apply PAt.dn | apply PAt.dr | refine PAt.st ?_ ⟨HG.out.1, HG.out.2.1⟩ _))).mono ?_; rintro e w1 ⟨rfl, hP, hC⟩; have n0_ := Aside0.mk hP; have n1_ := Aside0.mk (Ch.trans (by with_reducible repeat (first | exact HC.out | apply Ch.alloc | apply Ch.drewN | apply Ch.drew | refine Ch.stg ?_ HG.out.2.2 _)) hC); clear HP HC hP hC; have HP := n0_; have HC := n1_; clear n0_ n1_
 go_wp2_with fail
 rcases bo_cases HR.out with ⟨y, hy, hr2⟩ | ⟨⟨⟩, s2, hy, hr2⟩; (clear HR; subst hr2; refine (sign_calls b X Pm.wLt (Pm.nxt s1) _ (by with_reducible repeat (first | exact HP.out | apply PAt.al | apply PAt.dn | apply PAt.dr | refine PAt.st ?_ ⟨HG.out.1, HG.out.2.1⟩ _))).mono ?_; rintro e w1 hU; rw [(Option.some.inj hy : Pm.sign X.e Pm.wLt (Pm.nxt s1) = _)] at hU; obtain ⟨rfl, hC⟩ := hU; exact ⟨rfl, rfl, Ch.sm (Ch.trans (by with_reducible repeat (first | exact HC.out | apply Ch.alloc | apply Ch.drewN | apply Ch.drew | refine Ch.stg ?_ HG.out.2.2 _)) hC)⟩); ((try dsimp only at hr2); clear HR; have HR := Aside0.mk hr2; clear hr2; refine (sign_calls b X Pm.wLt (Pm.nxt s1) _ (by with_reducible repeat (first | exact HP.out | apply PAt.al | apply PAt.dn | apply PAt.dr | refine PAt.st ?_ ⟨HG.out.1, HG.out.2.1⟩ _))).mono ?_; rintro e w1 hU; rw [(Option.some.inj hy : Pm.sign X.e Pm.wLt (Pm.nxt s1) = _)] at hU; obtain ⟨rfl, hP, hC⟩ := hU; have n0_ := Aside0.mk hP; have n1_ := Aside0.mk (Ch.trans (by with_reducible repeat (first | exact HC.out | apply Ch.alloc | apply Ch.drewN | apply Ch.drew | refine Ch.stg ?_ HG.out.2.2 _)) hC); clear hP hC hy; (try clear HP); clear HC; have HP := n0_; have HC := n1_; clear n0_ n1_)
 go_wp2_with fail
 rcases bo_cases HR.out with ⟨y, hy, hr2⟩ | ⟨key, s3, hy, hr2⟩; (clear HR; subst hr2; refine (names_calls b X k true false s2 _ hy _ (by with_reducible repeat (first | exact HP.out | apply PAt.al | apply PAt.dn | apply PAt.dr | refine PAt.st ?_ ⟨HG.out.1, HG.out.2.1⟩ _))).mono ?_; rintro e w1 ⟨rfl, hC⟩; exact ⟨rfl, rfl, Ch.sm (Ch.trans (by with_reducible repeat (first | exact HC.out | apply Ch.alloc | apply Ch.drewN | apply Ch.drew | refine Ch.stg ?_ HG.out.2.2 _)) hC)⟩); ((try dsimp only at hr2); clear HR; have HR := Aside0.mk hr2; clear hr2; refine (names_calls b X k true false s2 _ hy _ (by with_reducible repeat (first | exact HP.out | apply PAt.al | apply PAt.dn | apply PAt.dr | refine PAt.st ?_ ⟨HG.out.1, HG.out.2.1⟩ _))).mono ?_; rintro e w1 ⟨rfl, hP, hC⟩; have n0_ := Aside0.mk hP; have n1_ := Aside0.mk (Ch.trans (by with_reducible repeat (first | exact HC.out | apply Ch.alloc | apply Ch.drewN | apply Ch.drew | refine Ch.stg ?_ HG.out.2.2 _)) hC); clear hP hC hy; (try clear HP); clear HC; have HP := n0_; have HC := n1_; clear n0_ n1_)
 clear HG
 have HG := Aside0.mk (show b < w1.heap.size ∧ X.B ≤ b ∧ W.heap.size ≤ w1.heap.size from ⟨HP.out.lt, HP.out.ge, HC.out.size⟩)
 have HX := Aside0.mk (blk_new w1 (.cells #[.int .i64 4, .string key, .string ⟨#[]⟩, .string ⟨#[]⟩, .int .i64 0, .int .i64 0] 44))
 go_wp2_with fail
 rcases bo_cases HR.out with ⟨y, hy, hr2⟩ | ⟨⟨⟩, s4, hy, hr2⟩; (clear HR; subst hr2; refine (sign_calls b X Pm.wComma s3 _ (by with_reducible repeat (first | exact HP.out | apply PAt.al | apply PAt.dn | apply PAt.dr | refine PAt.st ?_ ⟨HG.out.1, HG.out.2.1⟩ _))).mono ?_; rintro e w1 hU; rw [(Option.some.inj hy : Pm.sign X.e Pm.wComma s3 = _)] at hU; obtain ⟨rfl, hC⟩ := hU; exact ⟨rfl, rfl, Ch.sm (Ch.trans (by with_reducible repeat (first | exact HC.out | apply Ch.alloc | apply Ch.drewN | apply Ch.drew | refine Ch.stg ?_ HG.out.2.2 _)) hC)⟩); ((try dsimp only at hr2); clear HR; have HR := Aside0.mk hr2; clear hr2; refine (sign_calls b X Pm.wComma s3 _ (by with_reducible repeat (first | exact HP.out | apply PAt.al | apply PAt.dn | apply PAt.dr | refine PAt.st ?_ ⟨HG.out.1, HG.out.2.1⟩ _))).mono ?_; rintro e w1 hU; rw [(Option.some.inj hy : Pm.sign X.e Pm.wComma s3 = _)] at hU; obtain ⟨rfl, hP, hC⟩ := hU; have n0_ := Aside0.mk hP; have n1_ := Aside0.mk (Ch.trans (by with_reducible repeat (first | exact HC.out | apply Ch.alloc | apply Ch.drewN | apply Ch.drew | refine Ch.stg ?_ HG.out.2.2 _)) hC); have nx_ := Aside0.mk ((hC.block _ (pcell (HX.out)).2.2 (fun e_ => Nat.ne_of_gt HG.out.1 e_)).trans (HX.out)); clear hP hC hy; (try clear HP); clear HC; have HP := n0_; have HC := n1_; clear n0_ n1_; (try clear HX); have HX := nx_; clear nx_)
 go_wp2_with fail
 rcases bo_cases HR.out with ⟨y, hy, hr2⟩ | ⟨t, s5, hy, hr2⟩; (clear HR; subst hr2; refine (names_calls b X k true false s4 _ hy _ (by with_reducible repeat (first | exact HP.out | apply PAt.al | apply PAt.dn | apply PAt.dr | refine PAt.st ?_ ⟨HG.out.1, HG.out.2.1⟩ _))).mono ?_; rintro e w1 ⟨rfl, hC⟩; exact ⟨rfl, rfl, Ch.sm (Ch.trans (by with_reducible repeat (first | exact HC.out | apply Ch.alloc | apply Ch.drewN | apply Ch.drew | refine Ch.stg ?_ HG.out.2.2 _)) hC)⟩); ((try dsimp only at hr2); clear HR; have HR := Aside0.mk hr2; clear hr2; refine (names_calls b X k true false s4 _ hy _ (by with_reducible repeat (first | exact HP.out | apply PAt.al | apply PAt.dn | apply PAt.dr | refine PAt.st ?_ ⟨HG.out.1, HG.out.2.1⟩ _))).mono ?_; rintro e w1 ⟨rfl, hP, hC⟩; have n0_ := Aside0.mk hP; have n1_ := Aside0.mk (Ch.trans (by with_reducible repeat (first | exact HC.out | apply Ch.alloc | apply Ch.drewN | apply Ch.drew | refine Ch.stg ?_ HG.out.2.2 _)) hC); have nx_ := Aside0.mk ((hC.block _ (pcell (HX.out)).2.2 (fun e_ => Nat.ne_of_gt HG.out.1 e_)).trans (HX.out)); clear hP hC hy; (try clear HP); clear HC; have HP := n0_; have HC := n1_; clear n0_ n1_; (try clear HX); have HX := nx_; clear nx_)
 obtain ⟨bx1, bxf, bx3⟩ := pcell HX.out; have x0 := bx1 0 _ rfl; have f0 := bxf 0; have x1 := bx1 1 _ rfl; have f1 := bxf 1; have x2 := bx1 2 _ rfl; have f2 := bxf 2; have x3 := bx1 3 _ rfl; have f3 := bxf 3; have x4 := bx1 4 _ rfl; have f4 := bxf 4; have x5 := bx1 5 _ rfl; have f5 := bxf 5; clear bx1 bxf
 go_wp2_with fail
 clear bx3 x0 f0 x1 f1 x2 f2 x3 f3 x4 f4 x5 f5
 rcases bo_cases HR.out with ⟨y, hy, hr2⟩ | ⟨⟨⟩, s6, hy, hr2⟩; (clear HR; subst hr2; refine (sign_calls b X Pm.wGt s5 _ (by with_reducible repeat (first | exact HP.out | apply PAt.al | apply PAt.dn | apply PAt.dr | refine PAt.st ?_ ⟨HG.out.1, HG.out.2.1⟩ _))).mono ?_; rintro e w1 hU; rw [(Option.some.inj hy : Pm.sign X.e Pm.wGt s5 = _)] at hU; obtain ⟨rfl, hC⟩ := hU; exact ⟨rfl, rfl, Ch.sm (Ch.trans (by with_reducible repeat (first | exact HC.out | apply Ch.alloc | apply Ch.drewN | apply Ch.drew | refine Ch.stg ?_ HG.out.2.2 _)) hC)⟩); ((try dsimp only at hr2); clear HR; have HR := Aside0.mk hr2; clear hr2; refine (sign_calls b X Pm.wGt s5 _ (by with_reducible repeat (first | exact HP.out | apply PAt.al | apply PAt.dn | apply PAt.dr | refine PAt.st ?_ ⟨HG.out.1, HG.out.2.1⟩ _))).mono ?_; rintro e w1 hU; rw [(Option.some.inj hy : Pm.sign X.e Pm.wGt s5 = _)] at hU; obtain ⟨rfl, hP, hC⟩ := hU; have n0_ := Aside0.mk hP; have n1_ := Aside0.mk (Ch.trans (by with_reducible repeat (first | exact HC.out | apply Ch.alloc | apply Ch.drewN | apply Ch.drew | refine Ch.stg ?_ HG.out.2.2 _)) hC); have nx_ := Aside0.mk ((hC.block _ (pcell (pset HX.out 2 _)).2.2 (fun e_ => Nat.ne_of_gt HG.out.1 e_)).trans (pset HX.out 2 _)); clear hP hC hy; (try clear HP); clear HC; have HP := n0_; have HC := n1_; clear n0_ n1_; (try clear HX); have HX := nx_; clear nx_)
 obtain ⟨bx1, bxf, bx3⟩ := pcell HX.out; have x0 := bx1 0 _ rfl; have f0 := bxf 0; have x1 := bx1 1 _ rfl; have f1 := bxf 1; have x2 := bx1 2 _ rfl; have f2 := bxf 2; have x3 := bx1 3 _ rfl; have f3 := bxf 3; have x4 := bx1 4 _ rfl; have f4 := bxf 4; have x5 := bx1 5 _ rfl; have f5 := bxf 5; clear bx1 bxf
 go_wp2_with fail
 clear bx3 x0 f0 x1 f1 x2 f2 x3 f3 x4 f4 x5 f5
 refine (rest_calls base b bm X k { Pm.zfield with f0 := 4, f1 := key, f2 := t } m s6 r HR.out HL.out _ (by with_reducible repeat (first | exact HP.out | apply PAt.al | apply PAt.dn | apply PAt.dr | refine PAt.st ?_ ⟨HG.out.1, HG.out.2.1⟩ _)) (MInv.b HM.out (by with_reducible repeat (first | exact HC.out | apply Ch.alloc | apply Ch.drewN | apply Ch.drew | refine Ch.stg ?_ HG.out.2.2 _)))).mono ?_; rintro e w1 hU; rcases r with y | ⟨f', s'⟩; (obtain ⟨rfl, hC⟩ := hU; exact ⟨rfl, rfl, (Ch.sm (by with_reducible repeat (first | exact HC.out | apply Ch.alloc | apply Ch.drewN | apply Ch.drew | refine Ch.stg ?_ HG.out.2.2 _))).trans hC⟩); (obtain ⟨rfl, hP, hM, hC⟩ := hU; have n0_ := Aside0.mk hP; have n1_ := Aside0.mk ((Ch.sm (by with_reducible repeat (first | exact HC.out | apply Ch.alloc | apply Ch.drewN | apply Ch.drew | refine Ch.stg ?_ HG.out.2.2 _)) : Ch (SM b base) W _).trans hC); have n2_ := Aside0.mk hM; clear hP hC hM HP HC HM; go_wp2; go_end0; exact ⟨rfl, n0_.out, n2_.out, n1_.out⟩)
set_option maxHeartbeats 4000000 in
set_option maxRecDepth 100000 in
theorem labelled_calls (base b bm : Nat) (X : PFix) (k : Nat) (m : PMsg) (s : PS) (r : PR PField) (hr : Pm.labelled k X.e s = some r) (hl : ∀ a, r = .ok a → m.f1.length < 1099511627776) (W : World) (h : PAt b X W s) (hM : MInv base b bm W m) :
  Calls Tryd.prog 50 #[.pointer (some ⟨b, 0, none⟩), .pointer (some ⟨bm, 0, none⟩)] W (PostM base b bm X W (addF m r)) := by
 have HP := Aside0.mk h
 have HM := Aside0.mk hM
 have HC := Aside0.mk (Ch.refl (· = b) W)
 have HL := Aside0.mk hl
 have HR := Aside0.mk hr
 clear h hM hl hr
 unfold Pm.labelled at HR
 have HG := Aside0.mk True.intro
 have hf := fld2
 go_enter Tryd.func50, Tryd.ntmps50
 go_wp2_with fail
 rcases bo_cases HR.out with ⟨y, hy, hr2⟩ | ⟨⟨⟩, s1, hy, hr2⟩; (clear HR; subst hr2; refine (counts_calls b X s _ (by with_reducible repeat (first | exact HP.out | apply PAt.al | apply PAt.dn | apply PAt.dr | refine PAt.st ?_ ⟨HG.out.1, HG.out.2.1⟩ _))).mono ?_; rintro e w1 hU; rw [(Option.some.inj hy : Pm.counts X.e s = _)] at hU; obtain ⟨rfl, hC⟩ := hU; exact ⟨rfl, rfl, Ch.sm (Ch.trans (by with_reducible repeat (first | exact HC.out | apply Ch.alloc | apply Ch.drewN | apply Ch.drew | refine Ch.stg ?_ HG.out.2.2 _)) hC)⟩); ((try dsimp only at hr2); clear HR; have HR := Aside0.mk hr2; clear hr2; refine (counts_calls b X s _ (by with_reducible repeat (first | exact HP.out | apply PAt.al | apply PAt.dn | apply PAt.dr | refine PAt.st ?_ ⟨HG.out.1, HG.out.2.1⟩ _))).mono ?_; rintro e w1 hU; rw [(Option.some.inj hy : Pm.counts X.e s = _)] at hU; obtain ⟨rfl, hP, hC⟩ := hU; have n0_ := Aside0.mk hP; have n1_ := Aside0.mk (Ch.trans (by with_reducible repeat (first | exact HC.out | apply Ch.alloc | apply Ch.drewN | apply Ch.drew | refine Ch.stg ?_ HG.out.2.2 _)) hC); clear hP hC hy; (try clear HP); clear HC; have HP := n0_; have HC := n1_; clear n0_ n1_)
 go_wp2_with fail
 refine (now_calls b X s1 _ (by with_reducible repeat (first | exact HP.out | apply PAt.al | apply PAt.dn | apply PAt.dr | refine PAt.st ?_ ⟨HG.out.1, HG.out.2.1⟩ _))).mono ?_; rintro e w1 ⟨rfl, hb⟩; have n0_ := Aside0.mk (PAt.below (by with_reducible repeat (first | exact HP.out | apply PAt.al | apply PAt.dn | apply PAt.dr | refine PAt.st ?_ ⟨HG.out.1, HG.out.2.1⟩ _)) hb); have n1_ := Aside0.mk (Ch.then_below (by with_reducible repeat (first | exact HC.out | apply Ch.alloc | apply Ch.drewN | apply Ch.drew | refine Ch.stg ?_ HG.out.2.2 _)) hb); clear HP HC hb; have HP := n0_; have HC := n1_; clear n0_ n1_
 by_cases c : (Pm.now X.e s1).f2.toList = Pm.wRepeated.toList
 ·have hr2 := HR.out
  rw [if_pos c] at hr2
  clear HR
  have HR := Aside0.mk hr2
  clear hr2
  have cb : ((Pm.now X.e s1).f2.toList == [114, 101, 112, 101, 97, 116, 101, 100]) = true := by rw [beq_iff_eq, c]; simp [Pm.wRepeated, go_sem]
  clear c
  go_wp2_with fail
  refine (next_calls b X s1 _ (by with_reducible repeat (first | exact HP.out | apply PAt.al | apply PAt.dn | apply PAt.dr | refine PAt.st ?_ ⟨HG.out.1, HG.out.2.1⟩ _))).mono ?_; rintro e w1 ⟨rfl, hP, hC⟩; have n0_ := Aside0.mk hP; have n1_ := Aside0.mk (Ch.trans (by with_reducible repeat (first | exact HC.out | apply Ch.alloc | apply Ch.drewN | apply Ch.drew | refine Ch.stg ?_ HG.out.2.2 _)) hC); clear HP HC hP hC; have HP := n0_; have HC := n1_; clear n0_ n1_
  cases g : Pm.is X.e 1 Pm.wGroup (Pm.nxt s1) with
  | true =>
   have hr2 := HR.out
   rw [if_pos g] at hr2
   obtain rfl := Option.some.inj hr2
   have HGr := Aside0.mk g
   clear HR g hr2
   go_wp2_with fail
   refine (is_calls b X 1 Pm.wGroup (Pm.nxt s1) _ (by with_reducible repeat (first | exact HP.out | apply PAt.al | apply PAt.dn | apply PAt.dr | refine PAt.st ?_ ⟨HG.out.1, HG.out.2.1⟩ _))).mono ?_; rintro e w1 ⟨rfl, hb⟩; rw [HGr.out]; have n0_ := Aside0.mk (PAt.below (by with_reducible repeat (first | exact HP.out | apply PAt.al | apply PAt.dn | apply PAt.dr | refine PAt.st ?_ ⟨HG.out.1, HG.out.2.1⟩ _)) hb); have n1_ := Aside0.mk (Ch.then_below (by with_reducible repeat (first | exact HC.out | apply Ch.alloc | apply Ch.drewN | apply Ch.drew | refine Ch.stg ?_ HG.out.2.2 _)) hb); clear HP HC hb; have HP := n0_; have HC := n1_; clear n0_ n1_
   go_wp2_with fail
   refine (fail_calls b X 52 (Pm.nxt s1) _ (by with_reducible repeat (first | exact HP.out | apply PAt.al | apply PAt.dn | apply PAt.dr | refine PAt.st ?_ ⟨HG.out.1, HG.out.2.1⟩ _))).mono ?_; rintro e w1 ⟨rfl, hb⟩; exact ⟨rfl, rfl, Ch.sm (Ch.then_below (by with_reducible repeat (first | exact HC.out | apply Ch.alloc | apply Ch.drewN | apply Ch.drew | refine Ch.stg ?_ HG.out.2.2 _)) hb)⟩
  | false =>
   have hr2 := HR.out
   rw [if_neg (by rw [g]; exact Bool.false_ne_true)] at hr2
   have HGr := Aside0.mk g
   clear HR g
   have HR := Aside0.mk hr2
   clear hr2
   go_wp2_with fail
   refine (is_calls b X 1 Pm.wGroup (Pm.nxt s1) _ (by with_reducible repeat (first | exact HP.out | apply PAt.al | apply PAt.dn | apply PAt.dr | refine PAt.st ?_ ⟨HG.out.1, HG.out.2.1⟩ _))).mono ?_; rintro e w1 ⟨rfl, hb⟩; rw [HGr.out]; have n0_ := Aside0.mk (PAt.below (by with_reducible repeat (first | exact HP.out | apply PAt.al | apply PAt.dn | apply PAt.dr | refine PAt.st ?_ ⟨HG.out.1, HG.out.2.1⟩ _)) hb); have n1_ := Aside0.mk (Ch.then_below (by with_reducible repeat (first | exact HC.out | apply Ch.alloc | apply Ch.drewN | apply Ch.drew | refine Ch.stg ?_ HG.out.2.2 _)) hb); clear HP HC hb; have HP := n0_; have HC := n1_; clear n0_ n1_
   go_wp2_with fail
   refine (field_calls base b bm X k { Pm.zfield with f0 := 3 } false m (Pm.nxt s1) r HR.out HL.out _ (by with_reducible repeat (first | exact HP.out | apply PAt.al | apply PAt.dn | apply PAt.dr | refine PAt.st ?_ ⟨HG.out.1, HG.out.2.1⟩ _)) (MInv.b HM.out (by with_reducible repeat (first | exact HC.out | apply Ch.alloc | apply Ch.drewN | apply Ch.drew | refine Ch.stg ?_ HG.out.2.2 _)))).mono ?_; rintro e w1 hU; rcases r with y | ⟨f', s'⟩; (obtain ⟨rfl, hC⟩ := hU; exact ⟨rfl, rfl, (Ch.sm (by with_reducible repeat (first | exact HC.out | apply Ch.alloc | apply Ch.drewN | apply Ch.drew | refine Ch.stg ?_ HG.out.2.2 _))).trans hC⟩); (obtain ⟨rfl, hP, hM, hC⟩ := hU; have n0_ := Aside0.mk hP; have n1_ := Aside0.mk ((Ch.sm (by with_reducible repeat (first | exact HC.out | apply Ch.alloc | apply Ch.drewN | apply Ch.drew | refine Ch.stg ?_ HG.out.2.2 _)) : Ch (SM b base) W _).trans hC); have n2_ := Aside0.mk hM; clear hP hC hM HP HC HM; go_wp2; go_end0; exact ⟨rfl, n0_.out, n2_.out, n1_.out⟩)
 ·have hr2 := HR.out
  rw [if_neg c] at hr2
  clear HR
  have HR := Aside0.mk hr2
  clear hr2
  have cb : ((Pm.now X.e s1).f2.toList == [114, 101, 112, 101, 97, 116, 101, 100]) = false := by refine beq_eq_false_iff_ne.mpr (fun e => c (e.trans ?_)); simp [Pm.wRepeated, go_sem]
  clear c
  go_wp2_with fail
  refine (next_calls b X s1 _ (by with_reducible repeat (first | exact HP.out | apply PAt.al | apply PAt.dn | apply PAt.dr | refine PAt.st ?_ ⟨HG.out.1, HG.out.2.1⟩ _))).mono ?_; rintro e w1 ⟨rfl, hP, hC⟩; have n0_ := Aside0.mk hP; have n1_ := Aside0.mk (Ch.trans (by with_reducible repeat (first | exact HC.out | apply Ch.alloc | apply Ch.drewN | apply Ch.drew | refine Ch.stg ?_ HG.out.2.2 _)) hC); clear HP HC hP hC; have HP := n0_; have HC := n1_; clear n0_ n1_
  cases g : Pm.is X.e 1 Pm.wGroup (Pm.nxt s1) with
  | true =>
   have hr2 := HR.out
   rw [if_pos g] at hr2
   obtain rfl := Option.some.inj hr2
   have HGr := Aside0.mk g
   clear HR g hr2
   go_wp2_with fail
   refine (is_calls b X 1 Pm.wGroup (Pm.nxt s1) _ (by with_reducible repeat (first | exact HP.out | apply PAt.al | apply PAt.dn | apply PAt.dr | refine PAt.st ?_ ⟨HG.out.1, HG.out.2.1⟩ _))).mono ?_; rintro e w1 ⟨rfl, hb⟩; rw [HGr.out]; have n0_ := Aside0.mk (PAt.below (by with_reducible repeat (first | exact HP.out | apply PAt.al | apply PAt.dn | apply PAt.dr | refine PAt.st ?_ ⟨HG.out.1, HG.out.2.1⟩ _)) hb); have n1_ := Aside0.mk (Ch.then_below (by with_reducible repeat (first | exact HC.out | apply Ch.alloc | apply Ch.drewN | apply Ch.drew | refine Ch.stg ?_ HG.out.2.2 _)) hb); clear HP HC hb; have HP := n0_; have HC := n1_; clear n0_ n1_
   go_wp2_with fail
   refine (fail_calls b X 52 (Pm.nxt s1) _ (by with_reducible repeat (first | exact HP.out | apply PAt.al | apply PAt.dn | apply PAt.dr | refine PAt.st ?_ ⟨HG.out.1, HG.out.2.1⟩ _))).mono ?_; rintro e w1 ⟨rfl, hb⟩; exact ⟨rfl, rfl, Ch.sm (Ch.then_below (by with_reducible repeat (first | exact HC.out | apply Ch.alloc | apply Ch.drewN | apply Ch.drew | refine Ch.stg ?_ HG.out.2.2 _)) hb)⟩
  | false =>
   have hr2 := HR.out
   rw [if_neg (by rw [g]; exact Bool.false_ne_true)] at hr2
   have HGr := Aside0.mk g
   clear HR g
   have HR := Aside0.mk hr2
   clear hr2
   go_wp2_with fail
   refine (is_calls b X 1 Pm.wGroup (Pm.nxt s1) _ (by with_reducible repeat (first | exact HP.out | apply PAt.al | apply PAt.dn | apply PAt.dr | refine PAt.st ?_ ⟨HG.out.1, HG.out.2.1⟩ _))).mono ?_; rintro e w1 ⟨rfl, hb⟩; rw [HGr.out]; have n0_ := Aside0.mk (PAt.below (by with_reducible repeat (first | exact HP.out | apply PAt.al | apply PAt.dn | apply PAt.dr | refine PAt.st ?_ ⟨HG.out.1, HG.out.2.1⟩ _)) hb); have n1_ := Aside0.mk (Ch.then_below (by with_reducible repeat (first | exact HC.out | apply Ch.alloc | apply Ch.drewN | apply Ch.drew | refine Ch.stg ?_ HG.out.2.2 _)) hb); clear HP HC hb; have HP := n0_; have HC := n1_; clear n0_ n1_
   go_wp2_with fail
   refine (field_calls base b bm X k { Pm.zfield with f0 := 2 } false m (Pm.nxt s1) r HR.out HL.out _ (by with_reducible repeat (first | exact HP.out | apply PAt.al | apply PAt.dn | apply PAt.dr | refine PAt.st ?_ ⟨HG.out.1, HG.out.2.1⟩ _)) (MInv.b HM.out (by with_reducible repeat (first | exact HC.out | apply Ch.alloc | apply Ch.drewN | apply Ch.drew | refine Ch.stg ?_ HG.out.2.2 _)))).mono ?_; rintro e w1 hU; rcases r with y | ⟨f', s'⟩; (obtain ⟨rfl, hC⟩ := hU; exact ⟨rfl, rfl, (Ch.sm (by with_reducible repeat (first | exact HC.out | apply Ch.alloc | apply Ch.drewN | apply Ch.drew | refine Ch.stg ?_ HG.out.2.2 _))).trans hC⟩); (obtain ⟨rfl, hP, hM, hC⟩ := hU; have n0_ := Aside0.mk hP; have n1_ := Aside0.mk ((Ch.sm (by with_reducible repeat (first | exact HC.out | apply Ch.alloc | apply Ch.drewN | apply Ch.drew | refine Ch.stg ?_ HG.out.2.2 _)) : Ch (SM b base) W _).trans hC); have n2_ := Aside0.mk hM; clear hP hC hM HP HC HM; go_wp2; go_end0; exact ⟨rfl, n0_.out, n2_.out, n1_.out⟩)
end Go.Proofs.YtgkodenllfpajaaDoor.A
end
section
namespace Go.Proofs.YtgkodenllfpajaaDoor.A
open Go.RowKit Go.Proofs.YtgkodenllfpajaaDoorW.PrintWords Go.Proofs.YtgkodenllfpajaaDoorW.PrintLast Go.Proofs.YtgkodenllfpajaaDoorW.PrintMore
set_option linter.unusedVariables false
set_option linter.unusedSimpArgs false
theorem Pm.ite_t {α : Type} {c : Prop} [Decidable c] {x y : α} {z : α} (h : (if c then x else y) = z) (hc : c) : x = z := by rw [if_pos hc] at h; exact h
theorem Pm.ite_f {α : Type} {c : Prop} [Decidable c] {x y : α} {z : α} (h : (if c then x else y) = z) (hc : ¬ c) : y = z := by rw [if_neg hc] at h; exact h
set_option maxHeartbeats 4000000 in
set_option maxRecDepth 100000 in
theorem minus_calls (b : Nat) (X : PFix) (may : Bool) (s : PS) (W : World) (h : PAt b X W s) :
  Calls Tryd.prog 73 #[.pointer (some ⟨b, 0, none⟩), .bool may] W (PostU (· = b) b X W (fun v => .bool v) (.ok (Pm.minus X.e may s))) := by
 have HP := Aside0.mk h
 have HC := Aside0.mk (Ch.refl (· = b) W)
 have HG := Aside0.mk True.intro
 clear h
 cases may with
 | false =>
  rw [show Pm.minus X.e false s = (false, s) from if_neg (fun h => Bool.noConfusion h.1)]
  go_enter Tryd.func73, Tryd.ntmps73
  go_wp2
  go_ret
  exact ⟨rfl, HP.out, HC.out⟩
 | true =>
  cases g : Pm.is X.e 4 Pm.wMinus s with
  | true =>
   rw [show Pm.minus X.e true s = (true, Pm.nxt s) from if_pos ⟨rfl, g⟩]
   have HGr := Aside0.mk g
   clear g
   go_enter Tryd.func73, Tryd.ntmps73
   go_wp2_with fail
   refine (is_calls b X 4 Pm.wMinus s _ (by with_reducible repeat (first | exact HP.out | apply PAt.al | apply PAt.dn | apply PAt.dr | refine PAt.st ?_ ⟨HG.out.1, HG.out.2.1⟩ _))).mono ?_; rintro e w1 ⟨rfl, hb⟩; rw [HGr.out]; have n0_ := Aside0.mk (PAt.below (by with_reducible repeat (first | exact HP.out | apply PAt.al | apply PAt.dn | apply PAt.dr | refine PAt.st ?_ ⟨HG.out.1, HG.out.2.1⟩ _)) hb); have n1_ := Aside0.mk (Ch.then_below (by with_reducible repeat (first | exact HC.out | apply Ch.alloc | apply Ch.drewN | apply Ch.drew | refine Ch.stg ?_ HG.out.2.2 _)) hb); clear HP HC hb; have HP := n0_; have HC := n1_; clear n0_ n1_
   go_wp2_with fail
   refine (next_calls b X s _ (by with_reducible repeat (first | exact HP.out | apply PAt.al | apply PAt.dn | apply PAt.dr | refine PAt.st ?_ ⟨HG.out.1, HG.out.2.1⟩ _))).mono ?_; rintro e w1 ⟨rfl, hP, hC⟩; have n0_ := Aside0.mk hP; have n1_ := Aside0.mk (Ch.trans (by with_reducible repeat (first | exact HC.out | apply Ch.alloc | apply Ch.drewN | apply Ch.drew | refine Ch.stg ?_ HG.out.2.2 _)) hC); clear HP HC hP hC; have HP := n0_; have HC := n1_; clear n0_ n1_
   go_wp2
   go_ret
   exact ⟨rfl, HP.out, HC.out⟩
  | false =>
   rw [show Pm.minus X.e true s = (false, s) from if_neg (fun h => by have h2 := h.2; rw [g] at h2; cases h2)]
   have HGr := Aside0.mk g
   clear g
   go_enter Tryd.func73, Tryd.ntmps73
   go_wp2_with fail
   refine (is_calls b X 4 Pm.wMinus s _ (by with_reducible repeat (first | exact HP.out | apply PAt.al | apply PAt.dn | apply PAt.dr | refine PAt.st ?_ ⟨HG.out.1, HG.out.2.1⟩ _))).mono ?_; rintro e w1 ⟨rfl, hb⟩; rw [HGr.out]; have n0_ := Aside0.mk (PAt.below (by with_reducible repeat (first | exact HP.out | apply PAt.al | apply PAt.dn | apply PAt.dr | refine PAt.st ?_ ⟨HG.out.1, HG.out.2.1⟩ _)) hb); have n1_ := Aside0.mk (Ch.then_below (by with_reducible repeat (first | exact HC.out | apply Ch.alloc | apply Ch.drewN | apply Ch.drew | refine Ch.stg ?_ HG.out.2.2 _)) hb); clear HP HC hb; have HP := n0_; have HC := n1_; clear n0_ n1_
   go_wp2
   go_ret
   exact ⟨rfl, HP.out, HC.out⟩
set_option maxHeartbeats 4000000 in
set_option maxRecDepth 100000 in
theorem bound_calls (b : Nat) (X : PFix) (k : Nat) (neg enum : Bool) (s : PS) (r : PR Int) (hr : Pm.bound k X.e neg enum s = some r) (W : World) (h : PAt b X W s) :
  Calls Tryd.prog 90 #[.pointer (some ⟨b, 0, none⟩), .bool neg, .bool enum] W (PostU (· = b) b X W (fun n => .int .i64 n) r) := by
 have HP := Aside0.mk h
 have HC := Aside0.mk (Ch.refl (· = b) W)
 have HG := Aside0.mk True.intro
 have HR := Aside0.mk hr
 clear h hr
 unfold Pm.bound at HR
 go_enter Tryd.func90, Tryd.ntmps90
 go_wp2_with fail
 rcases bo_cases HR.out with ⟨y, hy, hr2⟩ | ⟨n, s1, hy, hr2⟩; (clear HR; subst hr2; refine (number_calls b X k neg s _ hy _ (by with_reducible repeat (first | exact HP.out | apply PAt.al | apply PAt.dn | apply PAt.dr | refine PAt.st ?_ ⟨HG.out.1, HG.out.2.1⟩ _))).mono ?_; rintro e w1 ⟨rfl, hC⟩; exact ⟨rfl, rfl, (Ch.trans (by with_reducible repeat (first | exact HC.out | apply Ch.alloc | apply Ch.drewN | apply Ch.drew | refine Ch.stg ?_ HG.out.2.2 _)) hC)⟩); ((try dsimp only at hr2); clear HR; have HR := Aside0.mk hr2; clear hr2; refine (number_calls b X k neg s _ hy _ (by with_reducible repeat (first | exact HP.out | apply PAt.al | apply PAt.dn | apply PAt.dr | refine PAt.st ?_ ⟨HG.out.1, HG.out.2.1⟩ _))).mono ?_; rintro e w1 ⟨rfl, hP, hC⟩; have n0_ := Aside0.mk hP; have n1_ := Aside0.mk (Ch.trans (by with_reducible repeat (first | exact HC.out | apply Ch.alloc | apply Ch.drewN | apply Ch.drew | refine Ch.stg ?_ HG.out.2.2 _)) hC); clear hP hC hy; (try clear HP); clear HC; have HP := n0_; have HC := n1_; clear n0_ n1_)
 cases enum with
 | true =>
  obtain rfl := Option.some.inj (Pm.ite_f HR.out (fun h => Bool.noConfusion h.1))
  clear HR
  go_wp2
  go_ret
  exact ⟨rfl, HP.out, HC.out⟩
 | false =>
  by_cases c1 : n < 1
  ·obtain rfl := Option.some.inj (Pm.ite_t HR.out ⟨rfl, .inl c1⟩)
   have cb : decide (n < 1) = true := decide_eq_true c1
   clear HR c1
   go_wp2_with fail
   refine (fail_calls b X 55 s1 _ (by with_reducible repeat (first | exact HP.out | apply PAt.al | apply PAt.dn | apply PAt.dr | refine PAt.st ?_ ⟨HG.out.1, HG.out.2.1⟩ _))).mono ?_; rintro e w1 ⟨rfl, hb⟩; exact ⟨rfl, rfl, (Ch.then_below (by with_reducible repeat (first | exact HC.out | apply Ch.alloc | apply Ch.drewN | apply Ch.drew | refine Ch.stg ?_ HG.out.2.2 _)) hb)⟩
  ·have cb : decide (n < 1) = false := decide_eq_false c1
   by_cases c2 : n > 536870911
   ·obtain rfl := Option.some.inj (Pm.ite_t HR.out ⟨rfl, .inr c2⟩)
    have cb2 : decide ((536870911 : Int) < n) = true := decide_eq_true c2
    clear HR c1 c2
    go_wp2_with fail
    refine (fail_calls b X 55 s1 _ (by with_reducible repeat (first | exact HP.out | apply PAt.al | apply PAt.dn | apply PAt.dr | refine PAt.st ?_ ⟨HG.out.1, HG.out.2.1⟩ _))).mono ?_; rintro e w1 ⟨rfl, hb⟩; exact ⟨rfl, rfl, (Ch.then_below (by with_reducible repeat (first | exact HC.out | apply Ch.alloc | apply Ch.drewN | apply Ch.drew | refine Ch.stg ?_ HG.out.2.2 _)) hb)⟩
   ·obtain rfl := Option.some.inj (Pm.ite_f HR.out (fun h => h.2.elim c1 c2))
    have cb2 : decide ((536870911 : Int) < n) = false := decide_eq_false c2
    clear HR c1 c2
    go_wp2
    go_ret
    exact ⟨rfl, HP.out, HC.out⟩
set_option maxHeartbeats 4000000 in
set_option maxRecDepth 100000 in
theorem row_calls (b : Nat) (X : PFix) (k : Nat) (enum : Bool) (s : PS) (r : PR PRange) (hr : Pm.row k X.e enum s = some r) (W : World) (h : PAt b X W s) :
  Calls Tryd.prog 79 #[.pointer (some ⟨b, 0, none⟩), .bool enum] W (PostU (· = b) b X W (fun v => .agg #[.int .i64 v.f0, .int .i64 v.f1]) r) := by
 have HB0 := Aside0.mk h.lt
 have HP := Aside0.mk (PAt.al h (.cells #[.int .i64 0, .int .i64 0] 116))
 have HC := Aside0.mk (Ch.refl (· = b) (W.alloc (.cells #[.int .i64 0, .int .i64 0] 116)))
 have HG := Aside0.mk True.intro
 unfold Pm.row at hr
 obtain ⟨c, hc⟩ : ∃ c, c = decide (enum = true ∧ Pm.is X.e 4 Pm.wMinus s = true) := ⟨_, rfl⟩
 rw [← hc] at hr
 dsimp only at hr
 have HR := Aside0.mk hr
 have HCc := Aside0.mk hc
 clear h hr hc
 go_enter Tryd.func79, Tryd.ntmps79
 cases enum with
 | false =>
  obtain rfl : c = false := HCc.out.trans (decide_eq_false (fun h => Bool.noConfusion h.1))
  have hr2 := HR.out
  clear HR
  obtain ⟨y, hy, hr3⟩ | ⟨⟨⟩, s1, hy, hr3⟩ := bo_cases hr2
  ·exact absurd hy (by simp)
  obtain rfl : s = s1 := by simpa using hy
  clear hy hr2
  have HR := Aside0.mk hr3
  clear hr3
  go_wp2_with fail
  rcases hm : Pm.minus X.e false (s) with ⟨mg, s2⟩; have hr2 := HR.out; rw [hm] at hr2; clear HR; have HR := Aside0.mk hr2; clear hr2; have hmc := minus_calls b X false (s) _ (by with_reducible repeat (first | exact HP.out | apply PAt.al | apply PAt.dn | apply PAt.dr | refine PAt.st ?_ ⟨HG.out.1, HG.out.2.1⟩ _)); rw [hm] at hmc; clear hm; refine hmc.mono ?_; clear hmc; rintro e w1 ⟨rfl, hP, hC⟩; have n0_ := Aside0.mk hP; have n1_ := Aside0.mk (Ch.trans (by with_reducible repeat (first | exact HC.out | apply Ch.alloc | apply Ch.drewN | apply Ch.drew | refine Ch.stg ?_ HG.out.2.2 _)) hC); clear HP HC hP hC; have HP := n0_; have HC := n1_; clear n0_ n1_
  go_wp2_with fail
  rcases bo_cases HR.out with ⟨y, hy, hr2⟩ | ⟨n, s3, hy, hr2⟩; (clear HR; subst hr2; refine (bound_calls b X k mg false s2 _ hy _ (by with_reducible repeat (first | exact HP.out | apply PAt.al | apply PAt.dn | apply PAt.dr | refine PAt.st ?_ ⟨HG.out.1, HG.out.2.1⟩ _))).mono ?_; rintro e w1 ⟨rfl, hC⟩; exact ⟨rfl, rfl, Ch.trans (Ch.alloc (Ch.refl _ _) _) (Ch.trans (by with_reducible repeat (first | exact HC.out | apply Ch.alloc | apply Ch.drewN | apply Ch.drew | refine Ch.stg ?_ HG.out.2.2 _)) hC)⟩); ((try dsimp only at hr2); clear HR; have HR := Aside0.mk hr2; clear hr2; refine (bound_calls b X k mg false s2 _ hy _ (by with_reducible repeat (first | exact HP.out | apply PAt.al | apply PAt.dn | apply PAt.dr | refine PAt.st ?_ ⟨HG.out.1, HG.out.2.1⟩ _))).mono ?_; rintro e w1 ⟨rfl, hP, hC⟩; have n0_ := Aside0.mk hP; have n1_ := Aside0.mk (Ch.trans (by with_reducible repeat (first | exact HC.out | apply Ch.alloc | apply Ch.drewN | apply Ch.drew | refine Ch.stg ?_ HG.out.2.2 _)) hC); clear hP hC hy; (try clear HP); clear HC; have HP := n0_; have HC := n1_; clear n0_ n1_)
  go_wp2_with fail
  rcases bo_cases HR.out with ⟨y, hy, hr2⟩ | ⟨⟨⟩, s4, hy, hr2⟩; (clear HR; subst hr2; refine (counts_calls b X s3 _ (by with_reducible repeat (first | exact HP.out | apply PAt.al | apply PAt.dn | apply PAt.dr | refine PAt.st ?_ ⟨HG.out.1, HG.out.2.1⟩ _))).mono ?_; rintro e w1 hU; rw [(Option.some.inj hy : Pm.counts X.e s3 = _)] at hU; obtain ⟨rfl, hC⟩ := hU; exact ⟨rfl, rfl, Ch.trans (Ch.alloc (Ch.refl _ _) _) (Ch.trans (by with_reducible repeat (first | exact HC.out | apply Ch.alloc | apply Ch.drewN | apply Ch.drew | refine Ch.stg ?_ HG.out.2.2 _)) hC)⟩); ((try dsimp only at hr2); clear HR; have HR := Aside0.mk hr2; clear hr2; refine (counts_calls b X s3 _ (by with_reducible repeat (first | exact HP.out | apply PAt.al | apply PAt.dn | apply PAt.dr | refine PAt.st ?_ ⟨HG.out.1, HG.out.2.1⟩ _))).mono ?_; rintro e w1 hU; rw [(Option.some.inj hy : Pm.counts X.e s3 = _)] at hU; obtain ⟨rfl, hP, hC⟩ := hU; have n0_ := Aside0.mk hP; have n1_ := Aside0.mk (Ch.trans (by with_reducible repeat (first | exact HC.out | apply Ch.alloc | apply Ch.drewN | apply Ch.drew | refine Ch.stg ?_ HG.out.2.2 _)) hC); clear hP hC hy; (try clear HP); clear HC; have HP := n0_; have HC := n1_; clear n0_ n1_)
  go_wp2_with fail
  refine (next_calls b X s4 _ (by with_reducible repeat (first | exact HP.out | apply PAt.al | apply PAt.dn | apply PAt.dr | refine PAt.st ?_ ⟨HG.out.1, HG.out.2.1⟩ _))).mono ?_; rintro e w1 ⟨rfl, hP, hC⟩; have n0_ := Aside0.mk hP; have n1_ := Aside0.mk (Ch.trans (by with_reducible repeat (first | exact HC.out | apply Ch.alloc | apply Ch.drewN | apply Ch.drew | refine Ch.stg ?_ HG.out.2.2 _)) hC); clear HP HC hP hC; have HP := n0_; have HC := n1_; clear n0_ n1_
  clear HG
  have HG := Aside0.mk (show b < w1.heap.size ∧ X.B ≤ b ∧ (W.alloc (.cells #[.int .i64 0, .int .i64 0] 116)).heap.size ≤ w1.heap.size from ⟨HP.out.lt, HP.out.ge, HC.out.size⟩)
  have HX := Aside0.mk (blk_new w1 (.cells #[.int .i64 n, .int .i64 n] 116))
  go_wp2_with fail
  cases g : Pm.is X.e 1 Pm.wTo (Pm.nxt s4) with
  | false =>
   obtain rfl := Option.some.inj (Pm.ite_f HR.out (fun h => by rw [g] at h; cases h))
   have HGr := Aside0.mk g
   clear g HR
   refine (is_calls b X 1 Pm.wTo (Pm.nxt s4) _ (by with_reducible repeat (first | exact HP.out | apply PAt.al | apply PAt.dn | apply PAt.dr | refine PAt.st ?_ ⟨HG.out.1, HG.out.2.1⟩ _))).mono ?_; rintro e w1 ⟨rfl, hb⟩; rw [HGr.out]; have n0_ := Aside0.mk (PAt.below (by with_reducible repeat (first | exact HP.out | apply PAt.al | apply PAt.dn | apply PAt.dr | refine PAt.st ?_ ⟨HG.out.1, HG.out.2.1⟩ _)) hb); have n1_ := Aside0.mk (Ch.then_below (by with_reducible repeat (first | exact HC.out | apply Ch.alloc | apply Ch.drewN | apply Ch.drew | refine Ch.stg ?_ HG.out.2.2 _)) hb); have nx_ := Aside0.mk ((hb.block _ (pcell (HX.out)).2.2).trans (HX.out)); clear HP HC hb HX; have HP := n0_; have HC := n1_; have HX := nx_; clear n0_ n1_ nx_
   have bx0 := (HC.out.block W.heap.size (by simp) (fun e_ => Nat.ne_of_gt HB0.out e_)).trans (blk_new W _)
   obtain ⟨by1, byf, by3⟩ := pcell bx0
   have y0 := by1 0 _ rfl; have y1 := by1 1 _ rfl; have z0 := byf 0; have z1 := byf 1
   have hgn : W.heap.size < _ := Nat.lt_of_lt_of_le (by simp) HG.out.2.2
   have hn1 := Nat.ne_of_lt hgn
   have hn2 := Nat.ne_of_gt hgn
   clear bx0 by1 byf hgn
   obtain ⟨bx1, bxf, bx3⟩ := pcell HX.out; have x0 := bx1 0 _ rfl; have f0 := bxf 0; have x1 := bx1 1 _ rfl; have f1 := bxf 1; clear bx1 bxf
   go_wp2
   refine bodyPost_ret (v := .agg #[.int .i64 n, .int .i64 n]) (by simp [results, Tryd.results79, go_sem, *]) rfl ?_
   exact ⟨rfl, (by with_reducible repeat (first | exact HP.out | refine PAt.st ?_ ⟨HB0.out, HP.out.ge⟩ _ | refine PAt.st ?_ ⟨HG.out.1, HG.out.2.1⟩ _)), (by with_reducible repeat (first | exact Ch.trans (Ch.alloc (Ch.refl _ _) _) HC.out | refine Ch.stg ?_ (Nat.le_refl _) _ | refine Ch.stg ?_ (Nat.le_trans (by simp) HG.out.2.2) _))⟩
  | true =>
   have hr3 := Pm.ite_t HR.out g
   have HGr := Aside0.mk g
   clear g HR
   have HR := Aside0.mk hr3
   clear hr3
   refine (is_calls b X 1 Pm.wTo (Pm.nxt s4) _ (by with_reducible repeat (first | exact HP.out | apply PAt.al | apply PAt.dn | apply PAt.dr | refine PAt.st ?_ ⟨HG.out.1, HG.out.2.1⟩ _))).mono ?_; rintro e w1 ⟨rfl, hb⟩; rw [HGr.out]; have n0_ := Aside0.mk (PAt.below (by with_reducible repeat (first | exact HP.out | apply PAt.al | apply PAt.dn | apply PAt.dr | refine PAt.st ?_ ⟨HG.out.1, HG.out.2.1⟩ _)) hb); have n1_ := Aside0.mk (Ch.then_below (by with_reducible repeat (first | exact HC.out | apply Ch.alloc | apply Ch.drewN | apply Ch.drew | refine Ch.stg ?_ HG.out.2.2 _)) hb); have nx_ := Aside0.mk ((hb.block _ (pcell (HX.out)).2.2).trans (HX.out)); clear HP HC hb HX; have HP := n0_; have HC := n1_; have HX := nx_; clear n0_ n1_ nx_
   go_wp2_with fail
   refine (next_calls b X (Pm.nxt s4) _ (by with_reducible repeat (first | exact HP.out | apply PAt.al | apply PAt.dn | apply PAt.dr | refine PAt.st ?_ ⟨HG.out.1, HG.out.2.1⟩ _))).mono ?_; rintro e w1 ⟨rfl, hP, hC⟩; have n0_ := Aside0.mk hP; have n1_ := Aside0.mk (Ch.trans (by with_reducible repeat (first | exact HC.out | apply Ch.alloc | apply Ch.drewN | apply Ch.drew | refine Ch.stg ?_ HG.out.2.2 _)) hC); have nx_ := Aside0.mk ((hC.block _ (pcell (HX.out)).2.2 (fun e_ => Nat.ne_of_gt HG.out.1 e_)).trans (HX.out)); clear HP HC hP hC; have HP := n0_; have HC := n1_; clear n0_ n1_; (try clear HX); have HX := nx_; clear nx_
   go_wp2_with fail
   cases g : Pm.is X.e 1 Pm.wMax (Pm.nxt (Pm.nxt s4)) with
   | true =>
    obtain rfl := Option.some.inj (Pm.ite_t HR.out g)
    have HGr := Aside0.mk g
    clear g HR
    refine (is_calls b X 1 Pm.wMax (Pm.nxt (Pm.nxt s4)) _ (by with_reducible repeat (first | exact HP.out | apply PAt.al | apply PAt.dn | apply PAt.dr | refine PAt.st ?_ ⟨HG.out.1, HG.out.2.1⟩ _))).mono ?_; rintro e w1 ⟨rfl, hb⟩; rw [HGr.out]; have n0_ := Aside0.mk (PAt.below (by with_reducible repeat (first | exact HP.out | apply PAt.al | apply PAt.dn | apply PAt.dr | refine PAt.st ?_ ⟨HG.out.1, HG.out.2.1⟩ _)) hb); have n1_ := Aside0.mk (Ch.then_below (by with_reducible repeat (first | exact HC.out | apply Ch.alloc | apply Ch.drewN | apply Ch.drew | refine Ch.stg ?_ HG.out.2.2 _)) hb); have nx_ := Aside0.mk ((hb.block _ (pcell (HX.out)).2.2).trans (HX.out)); clear HP HC hb HX; have HP := n0_; have HC := n1_; have HX := nx_; clear n0_ n1_ nx_
    go_wp2_with fail
    refine (next_calls b X (Pm.nxt (Pm.nxt s4)) _ (by with_reducible repeat (first | exact HP.out | apply PAt.al | apply PAt.dn | apply PAt.dr | refine PAt.st ?_ ⟨HG.out.1, HG.out.2.1⟩ _))).mono ?_; rintro e w1 ⟨rfl, hP, hC⟩; have n0_ := Aside0.mk hP; have n1_ := Aside0.mk (Ch.trans (by with_reducible repeat (first | exact HC.out | apply Ch.alloc | apply Ch.drewN | apply Ch.drew | refine Ch.stg ?_ HG.out.2.2 _)) hC); have nx_ := Aside0.mk ((hC.block _ (pcell (HX.out)).2.2 (fun e_ => Nat.ne_of_gt HG.out.1 e_)).trans (HX.out)); clear HP HC hP hC; have HP := n0_; have HC := n1_; clear n0_ n1_; (try clear HX); have HX := nx_; clear nx_
    have bx0 := (HC.out.block W.heap.size (by simp) (fun e_ => Nat.ne_of_gt HB0.out e_)).trans (blk_new W _)
    obtain ⟨by1, byf, by3⟩ := pcell bx0
    have y0 := by1 0 _ rfl; have y1 := by1 1 _ rfl; have z0 := byf 0; have z1 := byf 1
    have hgn : W.heap.size < _ := Nat.lt_of_lt_of_le (by simp) HG.out.2.2
    have hn1 := Nat.ne_of_lt hgn
    have hn2 := Nat.ne_of_gt hgn
    clear bx0 by1 byf hgn
    obtain ⟨bx1, bxf, bx3⟩ := pcell HX.out; have x0 := bx1 0 _ rfl; have f0 := bxf 0; have x1 := bx1 1 _ rfl; have f1 := bxf 1; clear bx1 bxf
    go_wp2
    refine bodyPost_ret (v := .agg #[.int .i64 n, .int .i64 536870911]) (by simp [results, Tryd.results79, go_sem, *]) rfl ?_
    exact ⟨rfl, (by with_reducible repeat (first | exact HP.out | refine PAt.st ?_ ⟨HB0.out, HP.out.ge⟩ _ | refine PAt.st ?_ ⟨HG.out.1, HG.out.2.1⟩ _)), (by with_reducible repeat (first | exact Ch.trans (Ch.alloc (Ch.refl _ _) _) HC.out | refine Ch.stg ?_ (Nat.le_refl _) _ | refine Ch.stg ?_ (Nat.le_trans (by simp) HG.out.2.2) _))⟩
   | false =>
    have hr3 := Pm.ite_f HR.out (fun h => by rw [g] at h; cases h)
    have HGr := Aside0.mk g
    clear g HR
    have HR := Aside0.mk hr3
    clear hr3
    refine (is_calls b X 1 Pm.wMax (Pm.nxt (Pm.nxt s4)) _ (by with_reducible repeat (first | exact HP.out | apply PAt.al | apply PAt.dn | apply PAt.dr | refine PAt.st ?_ ⟨HG.out.1, HG.out.2.1⟩ _))).mono ?_; rintro e w1 ⟨rfl, hb⟩; rw [HGr.out]; have n0_ := Aside0.mk (PAt.below (by with_reducible repeat (first | exact HP.out | apply PAt.al | apply PAt.dn | apply PAt.dr | refine PAt.st ?_ ⟨HG.out.1, HG.out.2.1⟩ _)) hb); have n1_ := Aside0.mk (Ch.then_below (by with_reducible repeat (first | exact HC.out | apply Ch.alloc | apply Ch.drewN | apply Ch.drew | refine Ch.stg ?_ HG.out.2.2 _)) hb); have nx_ := Aside0.mk ((hb.block _ (pcell (HX.out)).2.2).trans (HX.out)); clear HP HC hb HX; have HP := n0_; have HC := n1_; have HX := nx_; clear n0_ n1_ nx_
    go_wp2_with fail
    rcases hm : Pm.minus X.e false ((Pm.nxt (Pm.nxt s4))) with ⟨mg2, s5⟩; have hr2 := HR.out; rw [hm] at hr2; clear HR; have HR := Aside0.mk hr2; clear hr2; have hmc := minus_calls b X false ((Pm.nxt (Pm.nxt s4))) _ (by with_reducible repeat (first | exact HP.out | apply PAt.al | apply PAt.dn | apply PAt.dr | refine PAt.st ?_ ⟨HG.out.1, HG.out.2.1⟩ _)); rw [hm] at hmc; clear hm; refine hmc.mono ?_; clear hmc; rintro e w1 ⟨rfl, hP, hC⟩; have n0_ := Aside0.mk hP; have n1_ := Aside0.mk (Ch.trans (by with_reducible repeat (first | exact HC.out | apply Ch.alloc | apply Ch.drewN | apply Ch.drew | refine Ch.stg ?_ HG.out.2.2 _)) hC); have nx_ := Aside0.mk ((hC.block _ (pcell (HX.out)).2.2 (fun e_ => Nat.ne_of_gt HG.out.1 e_)).trans (HX.out)); clear HX; have HX := nx_; clear nx_; clear HP HC hP hC; have HP := n0_; have HC := n1_; clear n0_ n1_
    go_wp2_with fail
    rcases bo_cases HR.out with ⟨y, hy, hr2⟩ | ⟨q, s6, hy, hr2⟩; (clear HR; subst hr2; refine (bound_calls b X k mg2 false s5 _ hy _ (by with_reducible repeat (first | exact HP.out | apply PAt.al | apply PAt.dn | apply PAt.dr | refine PAt.st ?_ ⟨HG.out.1, HG.out.2.1⟩ _))).mono ?_; rintro e w1 ⟨rfl, hC⟩; exact ⟨rfl, rfl, Ch.trans (Ch.alloc (Ch.refl _ _) _) (Ch.trans (by with_reducible repeat (first | exact HC.out | apply Ch.alloc | apply Ch.drewN | apply Ch.drew | refine Ch.stg ?_ HG.out.2.2 _)) hC)⟩); ((try dsimp only at hr2); clear HR; have HR := Aside0.mk hr2; clear hr2; refine (bound_calls b X k mg2 false s5 _ hy _ (by with_reducible repeat (first | exact HP.out | apply PAt.al | apply PAt.dn | apply PAt.dr | refine PAt.st ?_ ⟨HG.out.1, HG.out.2.1⟩ _))).mono ?_; rintro e w1 ⟨rfl, hP, hC⟩; have n0_ := Aside0.mk hP; have n1_ := Aside0.mk (Ch.trans (by with_reducible repeat (first | exact HC.out | apply Ch.alloc | apply Ch.drewN | apply Ch.drew | refine Ch.stg ?_ HG.out.2.2 _)) hC); have nx_ := Aside0.mk ((hC.block _ (pcell (HX.out)).2.2 (fun e_ => Nat.ne_of_gt HG.out.1 e_)).trans (HX.out)); clear hP hC hy; (try clear HP); clear HC; have HP := n0_; have HC := n1_; clear n0_ n1_; (try clear HX); have HX := nx_; clear nx_)
    obtain ⟨bx1, bxf, bx3⟩ := pcell HX.out; have x0 := bx1 0 _ rfl; have f0 := bxf 0; have x1 := bx1 1 _ rfl; have f1 := bxf 1; clear bx1 bxf
    by_cases c : q < n
    ·obtain rfl := Option.some.inj (Pm.ite_t HR.out c)
     have cb : decide (q < n) = true := decide_eq_true c
     clear c HR
     go_wp2_with fail
     clear bx3 x0 f0 x1 f1
     refine (fail_calls b X 55 s6 _ (by with_reducible repeat (first | exact HP.out | apply PAt.al | apply PAt.dn | apply PAt.dr | refine PAt.st ?_ ⟨HG.out.1, HG.out.2.1⟩ _))).mono ?_; rintro e w1 ⟨rfl, hb⟩; exact ⟨rfl, rfl, Ch.trans (Ch.alloc (Ch.refl _ _) _) (Ch.then_below (by with_reducible repeat (first | exact HC.out | apply Ch.alloc | apply Ch.drewN | apply Ch.drew | refine Ch.stg ?_ HG.out.2.2 _)) hb)⟩
    ·obtain rfl := Option.some.inj (Pm.ite_f HR.out c)
     have cb : decide (q < n) = false := decide_eq_false c
     clear c HR
     go_wp2_with fail
     clear bx3 x0 f0 x1 f1
     refine (next_calls b X s6 _ (by with_reducible repeat (first | exact HP.out | apply PAt.al | apply PAt.dn | apply PAt.dr | refine PAt.st ?_ ⟨HG.out.1, HG.out.2.1⟩ _))).mono ?_; rintro e w1 ⟨rfl, hP, hC⟩; have n0_ := Aside0.mk hP; have n1_ := Aside0.mk (Ch.trans (by with_reducible repeat (first | exact HC.out | apply Ch.alloc | apply Ch.drewN | apply Ch.drew | refine Ch.stg ?_ HG.out.2.2 _)) hC); have nx_ := Aside0.mk ((hC.block _ (pcell (pset HX.out 1 _)).2.2 (fun e_ => Nat.ne_of_gt HG.out.1 e_)).trans (pset HX.out 1 _)); clear HP HC hP hC; have HP := n0_; have HC := n1_; clear n0_ n1_; (try clear HX); have HX := nx_; clear nx_
     have bx0 := (HC.out.block W.heap.size (by simp) (fun e_ => Nat.ne_of_gt HB0.out e_)).trans (blk_new W _)
     obtain ⟨by1, byf, by3⟩ := pcell bx0
     have y0 := by1 0 _ rfl; have y1 := by1 1 _ rfl; have z0 := byf 0; have z1 := byf 1
     have hgn : W.heap.size < _ := Nat.lt_of_lt_of_le (by simp) HG.out.2.2
     have hn1 := Nat.ne_of_lt hgn
     have hn2 := Nat.ne_of_gt hgn
     clear bx0 by1 byf hgn
     obtain ⟨bx1, bxf, bx3⟩ := pcell HX.out; have x0 := bx1 0 _ rfl; have f0 := bxf 0; have x1 := bx1 1 _ rfl; have f1 := bxf 1; clear bx1 bxf
     go_wp2
     refine bodyPost_ret (v := .agg #[.int .i64 n, .int .i64 q]) (by simp [results, Tryd.results79, go_sem, *]) rfl ?_
     exact ⟨rfl, (by with_reducible repeat (first | exact HP.out | refine PAt.st ?_ ⟨HB0.out, HP.out.ge⟩ _ | refine PAt.st ?_ ⟨HG.out.1, HG.out.2.1⟩ _)), (by with_reducible repeat (first | exact Ch.trans (Ch.alloc (Ch.refl _ _) _) HC.out | refine Ch.stg ?_ (Nat.le_refl _) _ | refine Ch.stg ?_ (Nat.le_trans (by simp) HG.out.2.2) _))⟩
 | true =>
  go_wp2_with fail
  cases g : Pm.is X.e 4 Pm.wMinus s with
  | false =>
   obtain rfl : c = false := HCc.out.trans (decide_eq_false (fun h => by have h2 := h.2; rw [g] at h2; cases h2))
   have hr2 := HR.out
   have HGr := Aside0.mk g
   clear HR g
   obtain ⟨y, hy, hr3⟩ | ⟨⟨⟩, s1, hy, hr3⟩ := bo_cases hr2
   ·exact absurd hy (by simp)
   obtain rfl : s = s1 := by simpa using hy
   clear hy hr2
   have HR := Aside0.mk hr3
   clear hr3
   refine (is_calls b X 4 Pm.wMinus s _ (by with_reducible repeat (first | exact HP.out | apply PAt.al | apply PAt.dn | apply PAt.dr | refine PAt.st ?_ ⟨HG.out.1, HG.out.2.1⟩ _))).mono ?_; rintro e w1 ⟨rfl, hb⟩; rw [HGr.out]; have n0_ := Aside0.mk (PAt.below (by with_reducible repeat (first | exact HP.out | apply PAt.al | apply PAt.dn | apply PAt.dr | refine PAt.st ?_ ⟨HG.out.1, HG.out.2.1⟩ _)) hb); have n1_ := Aside0.mk (Ch.then_below (by with_reducible repeat (first | exact HC.out | apply Ch.alloc | apply Ch.drewN | apply Ch.drew | refine Ch.stg ?_ HG.out.2.2 _)) hb); clear HP HC hb; have HP := n0_; have HC := n1_; clear n0_ n1_
   go_wp2_with fail
   rcases hm : Pm.minus X.e true (s) with ⟨mg, s2⟩; have hr2 := HR.out; rw [hm] at hr2; clear HR; have HR := Aside0.mk hr2; clear hr2; have hmc := minus_calls b X true (s) _ (by with_reducible repeat (first | exact HP.out | apply PAt.al | apply PAt.dn | apply PAt.dr | refine PAt.st ?_ ⟨HG.out.1, HG.out.2.1⟩ _)); rw [hm] at hmc; clear hm; refine hmc.mono ?_; clear hmc; rintro e w1 ⟨rfl, hP, hC⟩; have n0_ := Aside0.mk hP; have n1_ := Aside0.mk (Ch.trans (by with_reducible repeat (first | exact HC.out | apply Ch.alloc | apply Ch.drewN | apply Ch.drew | refine Ch.stg ?_ HG.out.2.2 _)) hC); clear HP HC hP hC; have HP := n0_; have HC := n1_; clear n0_ n1_
   go_wp2_with fail
   rcases bo_cases HR.out with ⟨y, hy, hr2⟩ | ⟨n, s3, hy, hr2⟩; (clear HR; subst hr2; refine (bound_calls b X k mg true s2 _ hy _ (by with_reducible repeat (first | exact HP.out | apply PAt.al | apply PAt.dn | apply PAt.dr | refine PAt.st ?_ ⟨HG.out.1, HG.out.2.1⟩ _))).mono ?_; rintro e w1 ⟨rfl, hC⟩; exact ⟨rfl, rfl, Ch.trans (Ch.alloc (Ch.refl _ _) _) (Ch.trans (by with_reducible repeat (first | exact HC.out | apply Ch.alloc | apply Ch.drewN | apply Ch.drew | refine Ch.stg ?_ HG.out.2.2 _)) hC)⟩); ((try dsimp only at hr2); clear HR; have HR := Aside0.mk hr2; clear hr2; refine (bound_calls b X k mg true s2 _ hy _ (by with_reducible repeat (first | exact HP.out | apply PAt.al | apply PAt.dn | apply PAt.dr | refine PAt.st ?_ ⟨HG.out.1, HG.out.2.1⟩ _))).mono ?_; rintro e w1 ⟨rfl, hP, hC⟩; have n0_ := Aside0.mk hP; have n1_ := Aside0.mk (Ch.trans (by with_reducible repeat (first | exact HC.out | apply Ch.alloc | apply Ch.drewN | apply Ch.drew | refine Ch.stg ?_ HG.out.2.2 _)) hC); clear hP hC hy; (try clear HP); clear HC; have HP := n0_; have HC := n1_; clear n0_ n1_)
   go_wp2_with fail
   rcases bo_cases HR.out with ⟨y, hy, hr2⟩ | ⟨⟨⟩, s4, hy, hr2⟩; (clear HR; subst hr2; refine (counts_calls b X s3 _ (by with_reducible repeat (first | exact HP.out | apply PAt.al | apply PAt.dn | apply PAt.dr | refine PAt.st ?_ ⟨HG.out.1, HG.out.2.1⟩ _))).mono ?_; rintro e w1 hU; rw [(Option.some.inj hy : Pm.counts X.e s3 = _)] at hU; obtain ⟨rfl, hC⟩ := hU; exact ⟨rfl, rfl, Ch.trans (Ch.alloc (Ch.refl _ _) _) (Ch.trans (by with_reducible repeat (first | exact HC.out | apply Ch.alloc | apply Ch.drewN | apply Ch.drew | refine Ch.stg ?_ HG.out.2.2 _)) hC)⟩); ((try dsimp only at hr2); clear HR; have HR := Aside0.mk hr2; clear hr2; refine (counts_calls b X s3 _ (by with_reducible repeat (first | exact HP.out | apply PAt.al | apply PAt.dn | apply PAt.dr | refine PAt.st ?_ ⟨HG.out.1, HG.out.2.1⟩ _))).mono ?_; rintro e w1 hU; rw [(Option.some.inj hy : Pm.counts X.e s3 = _)] at hU; obtain ⟨rfl, hP, hC⟩ := hU; have n0_ := Aside0.mk hP; have n1_ := Aside0.mk (Ch.trans (by with_reducible repeat (first | exact HC.out | apply Ch.alloc | apply Ch.drewN | apply Ch.drew | refine Ch.stg ?_ HG.out.2.2 _)) hC); clear hP hC hy; (try clear HP); clear HC; have HP := n0_; have HC := n1_; clear n0_ n1_)
   go_wp2_with fail
   refine (next_calls b X s4 _ (by with_reducible repeat (first | exact HP.out | apply PAt.al | apply PAt.dn | apply PAt.dr | refine PAt.st ?_ ⟨HG.out.1, HG.out.2.1⟩ _))).mono ?_; rintro e w1 ⟨rfl, hP, hC⟩; have n0_ := Aside0.mk hP; have n1_ := Aside0.mk (Ch.trans (by with_reducible repeat (first | exact HC.out | apply Ch.alloc | apply Ch.drewN | apply Ch.drew | refine Ch.stg ?_ HG.out.2.2 _)) hC); clear HP HC hP hC; have HP := n0_; have HC := n1_; clear n0_ n1_
   clear HG
   have HG := Aside0.mk (show b < w1.heap.size ∧ X.B ≤ b ∧ (W.alloc (.cells #[.int .i64 0, .int .i64 0] 116)).heap.size ≤ w1.heap.size from ⟨HP.out.lt, HP.out.ge, HC.out.size⟩)
   have HX := Aside0.mk (blk_new w1 (.cells #[.int .i64 n, .int .i64 n] 116))
   go_wp2_with fail
   cases g : Pm.is X.e 1 Pm.wTo (Pm.nxt s4) with
   | false =>
    obtain rfl := Option.some.inj (Pm.ite_f HR.out (fun h => by rw [g] at h; cases h))
    have HGr := Aside0.mk g
    clear g HR
    refine (is_calls b X 1 Pm.wTo (Pm.nxt s4) _ (by with_reducible repeat (first | exact HP.out | apply PAt.al | apply PAt.dn | apply PAt.dr | refine PAt.st ?_ ⟨HG.out.1, HG.out.2.1⟩ _))).mono ?_; rintro e w1 ⟨rfl, hb⟩; rw [HGr.out]; have n0_ := Aside0.mk (PAt.below (by with_reducible repeat (first | exact HP.out | apply PAt.al | apply PAt.dn | apply PAt.dr | refine PAt.st ?_ ⟨HG.out.1, HG.out.2.1⟩ _)) hb); have n1_ := Aside0.mk (Ch.then_below (by with_reducible repeat (first | exact HC.out | apply Ch.alloc | apply Ch.drewN | apply Ch.drew | refine Ch.stg ?_ HG.out.2.2 _)) hb); have nx_ := Aside0.mk ((hb.block _ (pcell (HX.out)).2.2).trans (HX.out)); clear HP HC hb HX; have HP := n0_; have HC := n1_; have HX := nx_; clear n0_ n1_ nx_
    have bx0 := (HC.out.block W.heap.size (by simp) (fun e_ => Nat.ne_of_gt HB0.out e_)).trans (blk_new W _)
    obtain ⟨by1, byf, by3⟩ := pcell bx0
    have y0 := by1 0 _ rfl; have y1 := by1 1 _ rfl; have z0 := byf 0; have z1 := byf 1
    have hgn : W.heap.size < _ := Nat.lt_of_lt_of_le (by simp) HG.out.2.2
    have hn1 := Nat.ne_of_lt hgn
    have hn2 := Nat.ne_of_gt hgn
    clear bx0 by1 byf hgn
    obtain ⟨bx1, bxf, bx3⟩ := pcell HX.out; have x0 := bx1 0 _ rfl; have f0 := bxf 0; have x1 := bx1 1 _ rfl; have f1 := bxf 1; clear bx1 bxf
    go_wp2
    refine bodyPost_ret (v := .agg #[.int .i64 n, .int .i64 n]) (by simp [results, Tryd.results79, go_sem, *]) rfl ?_
    exact ⟨rfl, (by with_reducible repeat (first | exact HP.out | refine PAt.st ?_ ⟨HB0.out, HP.out.ge⟩ _ | refine PAt.st ?_ ⟨HG.out.1, HG.out.2.1⟩ _)), (by with_reducible repeat (first | exact Ch.trans (Ch.alloc (Ch.refl _ _) _) HC.out | refine Ch.stg ?_ (Nat.le_refl _) _ | refine Ch.stg ?_ (Nat.le_trans (by simp) HG.out.2.2) _))⟩
   | true =>
    have hr3 := Pm.ite_t HR.out g
    have HGr := Aside0.mk g
    clear g HR
    have HR := Aside0.mk hr3
    clear hr3
    refine (is_calls b X 1 Pm.wTo (Pm.nxt s4) _ (by with_reducible repeat (first | exact HP.out | apply PAt.al | apply PAt.dn | apply PAt.dr | refine PAt.st ?_ ⟨HG.out.1, HG.out.2.1⟩ _))).mono ?_; rintro e w1 ⟨rfl, hb⟩; rw [HGr.out]; have n0_ := Aside0.mk (PAt.below (by with_reducible repeat (first | exact HP.out | apply PAt.al | apply PAt.dn | apply PAt.dr | refine PAt.st ?_ ⟨HG.out.1, HG.out.2.1⟩ _)) hb); have n1_ := Aside0.mk (Ch.then_below (by with_reducible repeat (first | exact HC.out | apply Ch.alloc | apply Ch.drewN | apply Ch.drew | refine Ch.stg ?_ HG.out.2.2 _)) hb); have nx_ := Aside0.mk ((hb.block _ (pcell (HX.out)).2.2).trans (HX.out)); clear HP HC hb HX; have HP := n0_; have HC := n1_; have HX := nx_; clear n0_ n1_ nx_
    go_wp2_with fail
    refine (next_calls b X (Pm.nxt s4) _ (by with_reducible repeat (first | exact HP.out | apply PAt.al | apply PAt.dn | apply PAt.dr | refine PAt.st ?_ ⟨HG.out.1, HG.out.2.1⟩ _))).mono ?_; rintro e w1 ⟨rfl, hP, hC⟩; have n0_ := Aside0.mk hP; have n1_ := Aside0.mk (Ch.trans (by with_reducible repeat (first | exact HC.out | apply Ch.alloc | apply Ch.drewN | apply Ch.drew | refine Ch.stg ?_ HG.out.2.2 _)) hC); have nx_ := Aside0.mk ((hC.block _ (pcell (HX.out)).2.2 (fun e_ => Nat.ne_of_gt HG.out.1 e_)).trans (HX.out)); clear HP HC hP hC; have HP := n0_; have HC := n1_; clear n0_ n1_; (try clear HX); have HX := nx_; clear nx_
    go_wp2_with fail
    cases g : Pm.is X.e 1 Pm.wMax (Pm.nxt (Pm.nxt s4)) with
    | true =>
     obtain rfl := Option.some.inj (Pm.ite_t HR.out g)
     have HGr := Aside0.mk g
     clear g HR
     refine (is_calls b X 1 Pm.wMax (Pm.nxt (Pm.nxt s4)) _ (by with_reducible repeat (first | exact HP.out | apply PAt.al | apply PAt.dn | apply PAt.dr | refine PAt.st ?_ ⟨HG.out.1, HG.out.2.1⟩ _))).mono ?_; rintro e w1 ⟨rfl, hb⟩; rw [HGr.out]; have n0_ := Aside0.mk (PAt.below (by with_reducible repeat (first | exact HP.out | apply PAt.al | apply PAt.dn | apply PAt.dr | refine PAt.st ?_ ⟨HG.out.1, HG.out.2.1⟩ _)) hb); have n1_ := Aside0.mk (Ch.then_below (by with_reducible repeat (first | exact HC.out | apply Ch.alloc | apply Ch.drewN | apply Ch.drew | refine Ch.stg ?_ HG.out.2.2 _)) hb); have nx_ := Aside0.mk ((hb.block _ (pcell (HX.out)).2.2).trans (HX.out)); clear HP HC hb HX; have HP := n0_; have HC := n1_; have HX := nx_; clear n0_ n1_ nx_
     go_wp2_with fail
     refine (next_calls b X (Pm.nxt (Pm.nxt s4)) _ (by with_reducible repeat (first | exact HP.out | apply PAt.al | apply PAt.dn | apply PAt.dr | refine PAt.st ?_ ⟨HG.out.1, HG.out.2.1⟩ _))).mono ?_; rintro e w1 ⟨rfl, hP, hC⟩; have n0_ := Aside0.mk hP; have n1_ := Aside0.mk (Ch.trans (by with_reducible repeat (first | exact HC.out | apply Ch.alloc | apply Ch.drewN | apply Ch.drew | refine Ch.stg ?_ HG.out.2.2 _)) hC); have nx_ := Aside0.mk ((hC.block _ (pcell (HX.out)).2.2 (fun e_ => Nat.ne_of_gt HG.out.1 e_)).trans (HX.out)); clear HP HC hP hC; have HP := n0_; have HC := n1_; clear n0_ n1_; (try clear HX); have HX := nx_; clear nx_
     have bx0 := (HC.out.block W.heap.size (by simp) (fun e_ => Nat.ne_of_gt HB0.out e_)).trans (blk_new W _)
     obtain ⟨by1, byf, by3⟩ := pcell bx0
     have y0 := by1 0 _ rfl; have y1 := by1 1 _ rfl; have z0 := byf 0; have z1 := byf 1
     have hgn : W.heap.size < _ := Nat.lt_of_lt_of_le (by simp) HG.out.2.2
     have hn1 := Nat.ne_of_lt hgn
     have hn2 := Nat.ne_of_gt hgn
     clear bx0 by1 byf hgn
     obtain ⟨bx1, bxf, bx3⟩ := pcell HX.out; have x0 := bx1 0 _ rfl; have f0 := bxf 0; have x1 := bx1 1 _ rfl; have f1 := bxf 1; clear bx1 bxf
     go_wp2
     refine bodyPost_ret (v := .agg #[.int .i64 n, .int .i64 2147483647]) (by simp [results, Tryd.results79, go_sem, *]) rfl ?_
     exact ⟨rfl, (by with_reducible repeat (first | exact HP.out | refine PAt.st ?_ ⟨HB0.out, HP.out.ge⟩ _ | refine PAt.st ?_ ⟨HG.out.1, HG.out.2.1⟩ _)), (by with_reducible repeat (first | exact Ch.trans (Ch.alloc (Ch.refl _ _) _) HC.out | refine Ch.stg ?_ (Nat.le_refl _) _ | refine Ch.stg ?_ (Nat.le_trans (by simp) HG.out.2.2) _))⟩
    | false =>
     have hr3 := Pm.ite_f HR.out (fun h => by rw [g] at h; cases h)
     have HGr := Aside0.mk g
     clear g HR
     have HR := Aside0.mk hr3
     clear hr3
     refine (is_calls b X 1 Pm.wMax (Pm.nxt (Pm.nxt s4)) _ (by with_reducible repeat (first | exact HP.out | apply PAt.al | apply PAt.dn | apply PAt.dr | refine PAt.st ?_ ⟨HG.out.1, HG.out.2.1⟩ _))).mono ?_; rintro e w1 ⟨rfl, hb⟩; rw [HGr.out]; have n0_ := Aside0.mk (PAt.below (by with_reducible repeat (first | exact HP.out | apply PAt.al | apply PAt.dn | apply PAt.dr | refine PAt.st ?_ ⟨HG.out.1, HG.out.2.1⟩ _)) hb); have n1_ := Aside0.mk (Ch.then_below (by with_reducible repeat (first | exact HC.out | apply Ch.alloc | apply Ch.drewN | apply Ch.drew | refine Ch.stg ?_ HG.out.2.2 _)) hb); have nx_ := Aside0.mk ((hb.block _ (pcell (HX.out)).2.2).trans (HX.out)); clear HP HC hb HX; have HP := n0_; have HC := n1_; have HX := nx_; clear n0_ n1_ nx_
     go_wp2_with fail
     rcases hm : Pm.minus X.e true ((Pm.nxt (Pm.nxt s4))) with ⟨mg2, s5⟩; have hr2 := HR.out; rw [hm] at hr2; clear HR; have HR := Aside0.mk hr2; clear hr2; have hmc := minus_calls b X true ((Pm.nxt (Pm.nxt s4))) _ (by with_reducible repeat (first | exact HP.out | apply PAt.al | apply PAt.dn | apply PAt.dr | refine PAt.st ?_ ⟨HG.out.1, HG.out.2.1⟩ _)); rw [hm] at hmc; clear hm; refine hmc.mono ?_; clear hmc; rintro e w1 ⟨rfl, hP, hC⟩; have n0_ := Aside0.mk hP; have n1_ := Aside0.mk (Ch.trans (by with_reducible repeat (first | exact HC.out | apply Ch.alloc | apply Ch.drewN | apply Ch.drew | refine Ch.stg ?_ HG.out.2.2 _)) hC); have nx_ := Aside0.mk ((hC.block _ (pcell (HX.out)).2.2 (fun e_ => Nat.ne_of_gt HG.out.1 e_)).trans (HX.out)); clear HX; have HX := nx_; clear nx_; clear HP HC hP hC; have HP := n0_; have HC := n1_; clear n0_ n1_
     go_wp2_with fail
     rcases bo_cases HR.out with ⟨y, hy, hr2⟩ | ⟨q, s6, hy, hr2⟩; (clear HR; subst hr2; refine (bound_calls b X k mg2 true s5 _ hy _ (by with_reducible repeat (first | exact HP.out | apply PAt.al | apply PAt.dn | apply PAt.dr | refine PAt.st ?_ ⟨HG.out.1, HG.out.2.1⟩ _))).mono ?_; rintro e w1 ⟨rfl, hC⟩; exact ⟨rfl, rfl, Ch.trans (Ch.alloc (Ch.refl _ _) _) (Ch.trans (by with_reducible repeat (first | exact HC.out | apply Ch.alloc | apply Ch.drewN | apply Ch.drew | refine Ch.stg ?_ HG.out.2.2 _)) hC)⟩); ((try dsimp only at hr2); clear HR; have HR := Aside0.mk hr2; clear hr2; refine (bound_calls b X k mg2 true s5 _ hy _ (by with_reducible repeat (first | exact HP.out | apply PAt.al | apply PAt.dn | apply PAt.dr | refine PAt.st ?_ ⟨HG.out.1, HG.out.2.1⟩ _))).mono ?_; rintro e w1 ⟨rfl, hP, hC⟩; have n0_ := Aside0.mk hP; have n1_ := Aside0.mk (Ch.trans (by with_reducible repeat (first | exact HC.out | apply Ch.alloc | apply Ch.drewN | apply Ch.drew | refine Ch.stg ?_ HG.out.2.2 _)) hC); have nx_ := Aside0.mk ((hC.block _ (pcell (HX.out)).2.2 (fun e_ => Nat.ne_of_gt HG.out.1 e_)).trans (HX.out)); clear hP hC hy; (try clear HP); clear HC; have HP := n0_; have HC := n1_; clear n0_ n1_; (try clear HX); have HX := nx_; clear nx_)
     obtain ⟨bx1, bxf, bx3⟩ := pcell HX.out; have x0 := bx1 0 _ rfl; have f0 := bxf 0; have x1 := bx1 1 _ rfl; have f1 := bxf 1; clear bx1 bxf
     by_cases c : q < n
     ·obtain rfl := Option.some.inj (Pm.ite_t HR.out c)
      have cb : decide (q < n) = true := decide_eq_true c
      clear c HR
      go_wp2_with fail
      clear bx3 x0 f0 x1 f1
      refine (fail_calls b X 55 s6 _ (by with_reducible repeat (first | exact HP.out | apply PAt.al | apply PAt.dn | apply PAt.dr | refine PAt.st ?_ ⟨HG.out.1, HG.out.2.1⟩ _))).mono ?_; rintro e w1 ⟨rfl, hb⟩; exact ⟨rfl, rfl, Ch.trans (Ch.alloc (Ch.refl _ _) _) (Ch.then_below (by with_reducible repeat (first | exact HC.out | apply Ch.alloc | apply Ch.drewN | apply Ch.drew | refine Ch.stg ?_ HG.out.2.2 _)) hb)⟩
     ·obtain rfl := Option.some.inj (Pm.ite_f HR.out c)
      have cb : decide (q < n) = false := decide_eq_false c
      clear c HR
      go_wp2_with fail
      clear bx3 x0 f0 x1 f1
      refine (next_calls b X s6 _ (by with_reducible repeat (first | exact HP.out | apply PAt.al | apply PAt.dn | apply PAt.dr | refine PAt.st ?_ ⟨HG.out.1, HG.out.2.1⟩ _))).mono ?_; rintro e w1 ⟨rfl, hP, hC⟩; have n0_ := Aside0.mk hP; have n1_ := Aside0.mk (Ch.trans (by with_reducible repeat (first | exact HC.out | apply Ch.alloc | apply Ch.drewN | apply Ch.drew | refine Ch.stg ?_ HG.out.2.2 _)) hC); have nx_ := Aside0.mk ((hC.block _ (pcell (pset HX.out 1 _)).2.2 (fun e_ => Nat.ne_of_gt HG.out.1 e_)).trans (pset HX.out 1 _)); clear HP HC hP hC; have HP := n0_; have HC := n1_; clear n0_ n1_; (try clear HX); have HX := nx_; clear nx_
      have bx0 := (HC.out.block W.heap.size (by simp) (fun e_ => Nat.ne_of_gt HB0.out e_)).trans (blk_new W _)
      obtain ⟨by1, byf, by3⟩ := pcell bx0
      have y0 := by1 0 _ rfl; have y1 := by1 1 _ rfl; have z0 := byf 0; have z1 := byf 1
      have hgn : W.heap.size < _ := Nat.lt_of_lt_of_le (by simp) HG.out.2.2
      have hn1 := Nat.ne_of_lt hgn
      have hn2 := Nat.ne_of_gt hgn
      clear bx0 by1 byf hgn
      obtain ⟨bx1, bxf, bx3⟩ := pcell HX.out; have x0 := bx1 0 _ rfl; have f0 := bxf 0; have x1 := bx1 1 _ rfl; have f1 := bxf 1; clear bx1 bxf
      go_wp2
      refine bodyPost_ret (v := .agg #[.int .i64 n, .int .i64 q]) (by simp [results, Tryd.results79, go_sem, *]) rfl ?_
      exact ⟨rfl, (by with_reducible repeat (first | exact HP.out | refine PAt.st ?_ ⟨HB0.out, HP.out.ge⟩ _ | refine PAt.st ?_ ⟨HG.out.1, HG.out.2.1⟩ _)), (by with_reducible repeat (first | exact Ch.trans (Ch.alloc (Ch.refl _ _) _) HC.out | refine Ch.stg ?_ (Nat.le_refl _) _ | refine Ch.stg ?_ (Nat.le_trans (by simp) HG.out.2.2) _))⟩
  | true =>
   obtain rfl : c = true := HCc.out.trans (decide_eq_true ⟨by trivial, g⟩)
   have hr2 := HR.out
   have HGr := Aside0.mk g
   clear HR g
   have HR := Aside0.mk hr2
   clear hr2
   refine (is_calls b X 4 Pm.wMinus s _ (by with_reducible repeat (first | exact HP.out | apply PAt.al | apply PAt.dn | apply PAt.dr | refine PAt.st ?_ ⟨HG.out.1, HG.out.2.1⟩ _))).mono ?_; rintro e w1 ⟨rfl, hb⟩; rw [HGr.out]; have n0_ := Aside0.mk (PAt.below (by with_reducible repeat (first | exact HP.out | apply PAt.al | apply PAt.dn | apply PAt.dr | refine PAt.st ?_ ⟨HG.out.1, HG.out.2.1⟩ _)) hb); have n1_ := Aside0.mk (Ch.then_below (by with_reducible repeat (first | exact HC.out | apply Ch.alloc | apply Ch.drewN | apply Ch.drew | refine Ch.stg ?_ HG.out.2.2 _)) hb); clear HP HC hb; have HP := n0_; have HC := n1_; clear n0_ n1_
   go_wp2_with fail
   rcases bo_cases HR.out with ⟨y, hy, hr2⟩ | ⟨⟨⟩, s1, hy, hr2⟩; (clear HR; subst hr2; refine (counts_calls b X s _ (by with_reducible repeat (first | exact HP.out | apply PAt.al | apply PAt.dn | apply PAt.dr | refine PAt.st ?_ ⟨HG.out.1, HG.out.2.1⟩ _))).mono ?_; rintro e w1 hU; rw [(Option.some.inj hy : Pm.counts X.e s = _)] at hU; obtain ⟨rfl, hC⟩ := hU; exact ⟨rfl, rfl, Ch.trans (Ch.alloc (Ch.refl _ _) _) (Ch.trans (by with_reducible repeat (first | exact HC.out | apply Ch.alloc | apply Ch.drewN | apply Ch.drew | refine Ch.stg ?_ HG.out.2.2 _)) hC)⟩); ((try dsimp only at hr2); clear HR; have HR := Aside0.mk hr2; clear hr2; refine (counts_calls b X s _ (by with_reducible repeat (first | exact HP.out | apply PAt.al | apply PAt.dn | apply PAt.dr | refine PAt.st ?_ ⟨HG.out.1, HG.out.2.1⟩ _))).mono ?_; rintro e w1 hU; rw [(Option.some.inj hy : Pm.counts X.e s = _)] at hU; obtain ⟨rfl, hP, hC⟩ := hU; have n0_ := Aside0.mk hP; have n1_ := Aside0.mk (Ch.trans (by with_reducible repeat (first | exact HC.out | apply Ch.alloc | apply Ch.drewN | apply Ch.drew | refine Ch.stg ?_ HG.out.2.2 _)) hC); clear hP hC hy; (try clear HP); clear HC; have HP := n0_; have HC := n1_; clear n0_ n1_)
   go_wp2_with fail
   rcases hm : Pm.minus X.e true (s1) with ⟨mg, s2⟩; have hr2 := HR.out; rw [hm] at hr2; clear HR; have HR := Aside0.mk hr2; clear hr2; have hmc := minus_calls b X true (s1) _ (by with_reducible repeat (first | exact HP.out | apply PAt.al | apply PAt.dn | apply PAt.dr | refine PAt.st ?_ ⟨HG.out.1, HG.out.2.1⟩ _)); rw [hm] at hmc; clear hm; refine hmc.mono ?_; clear hmc; rintro e w1 ⟨rfl, hP, hC⟩; have n0_ := Aside0.mk hP; have n1_ := Aside0.mk (Ch.trans (by with_reducible repeat (first | exact HC.out | apply Ch.alloc | apply Ch.drewN | apply Ch.drew | refine Ch.stg ?_ HG.out.2.2 _)) hC); clear HP HC hP hC; have HP := n0_; have HC := n1_; clear n0_ n1_
   go_wp2_with fail
   rcases bo_cases HR.out with ⟨y, hy, hr2⟩ | ⟨n, s3, hy, hr2⟩; (clear HR; subst hr2; refine (bound_calls b X k mg true s2 _ hy _ (by with_reducible repeat (first | exact HP.out | apply PAt.al | apply PAt.dn | apply PAt.dr | refine PAt.st ?_ ⟨HG.out.1, HG.out.2.1⟩ _))).mono ?_; rintro e w1 ⟨rfl, hC⟩; exact ⟨rfl, rfl, Ch.trans (Ch.alloc (Ch.refl _ _) _) (Ch.trans (by with_reducible repeat (first | exact HC.out | apply Ch.alloc | apply Ch.drewN | apply Ch.drew | refine Ch.stg ?_ HG.out.2.2 _)) hC)⟩); ((try dsimp only at hr2); clear HR; have HR := Aside0.mk hr2; clear hr2; refine (bound_calls b X k mg true s2 _ hy _ (by with_reducible repeat (first | exact HP.out | apply PAt.al | apply PAt.dn | apply PAt.dr | refine PAt.st ?_ ⟨HG.out.1, HG.out.2.1⟩ _))).mono ?_; rintro e w1 ⟨rfl, hP, hC⟩; have n0_ := Aside0.mk hP; have n1_ := Aside0.mk (Ch.trans (by with_reducible repeat (first | exact HC.out | apply Ch.alloc | apply Ch.drewN | apply Ch.drew | refine Ch.stg ?_ HG.out.2.2 _)) hC); clear hP hC hy; (try clear HP); clear HC; have HP := n0_; have HC := n1_; clear n0_ n1_)
   obtain ⟨y, hy, hr3⟩ | ⟨⟨⟩, s4, hy, hr3⟩ := bo_cases HR.out
   ·exact absurd hy (by simp)
   obtain rfl : s3 = s4 := by simpa using hy
   clear HR hy
   have HR := Aside0.mk hr3
   clear hr3
   go_wp2_with fail
   refine (next_calls b X s3 _ (by with_reducible repeat (first | exact HP.out | apply PAt.al | apply PAt.dn | apply PAt.dr | refine PAt.st ?_ ⟨HG.out.1, HG.out.2.1⟩ _))).mono ?_; rintro e w1 ⟨rfl, hP, hC⟩; have n0_ := Aside0.mk hP; have n1_ := Aside0.mk (Ch.trans (by with_reducible repeat (first | exact HC.out | apply Ch.alloc | apply Ch.drewN | apply Ch.drew | refine Ch.stg ?_ HG.out.2.2 _)) hC); clear HP HC hP hC; have HP := n0_; have HC := n1_; clear n0_ n1_
   clear HG
   have HG := Aside0.mk (show b < w1.heap.size ∧ X.B ≤ b ∧ (W.alloc (.cells #[.int .i64 0, .int .i64 0] 116)).heap.size ≤ w1.heap.size from ⟨HP.out.lt, HP.out.ge, HC.out.size⟩)
   have HX := Aside0.mk (blk_new w1 (.cells #[.int .i64 n, .int .i64 n] 116))
   go_wp2_with fail
   cases g : Pm.is X.e 1 Pm.wTo (Pm.nxt s3) with
   | false =>
    obtain rfl := Option.some.inj (Pm.ite_f HR.out (fun h => by rw [g] at h; cases h))
    have HGr := Aside0.mk g
    clear g HR
    refine (is_calls b X 1 Pm.wTo (Pm.nxt s3) _ (by with_reducible repeat (first | exact HP.out | apply PAt.al | apply PAt.dn | apply PAt.dr | refine PAt.st ?_ ⟨HG.out.1, HG.out.2.1⟩ _))).mono ?_; rintro e w1 ⟨rfl, hb⟩; rw [HGr.out]; have n0_ := Aside0.mk (PAt.below (by with_reducible repeat (first | exact HP.out | apply PAt.al | apply PAt.dn | apply PAt.dr | refine PAt.st ?_ ⟨HG.out.1, HG.out.2.1⟩ _)) hb); have n1_ := Aside0.mk (Ch.then_below (by with_reducible repeat (first | exact HC.out | apply Ch.alloc | apply Ch.drewN | apply Ch.drew | refine Ch.stg ?_ HG.out.2.2 _)) hb); have nx_ := Aside0.mk ((hb.block _ (pcell (HX.out)).2.2).trans (HX.out)); clear HP HC hb HX; have HP := n0_; have HC := n1_; have HX := nx_; clear n0_ n1_ nx_
    have bx0 := (HC.out.block W.heap.size (by simp) (fun e_ => Nat.ne_of_gt HB0.out e_)).trans (blk_new W _)
    obtain ⟨by1, byf, by3⟩ := pcell bx0
    have y0 := by1 0 _ rfl; have y1 := by1 1 _ rfl; have z0 := byf 0; have z1 := byf 1
    have hgn : W.heap.size < _ := Nat.lt_of_lt_of_le (by simp) HG.out.2.2
    have hn1 := Nat.ne_of_lt hgn
    have hn2 := Nat.ne_of_gt hgn
    clear bx0 by1 byf hgn
    obtain ⟨bx1, bxf, bx3⟩ := pcell HX.out; have x0 := bx1 0 _ rfl; have f0 := bxf 0; have x1 := bx1 1 _ rfl; have f1 := bxf 1; clear bx1 bxf
    go_wp2
    refine bodyPost_ret (v := .agg #[.int .i64 n, .int .i64 n]) (by simp [results, Tryd.results79, go_sem, *]) rfl ?_
    exact ⟨rfl, (by with_reducible repeat (first | exact HP.out | refine PAt.st ?_ ⟨HB0.out, HP.out.ge⟩ _ | refine PAt.st ?_ ⟨HG.out.1, HG.out.2.1⟩ _)), (by with_reducible repeat (first | exact Ch.trans (Ch.alloc (Ch.refl _ _) _) HC.out | refine Ch.stg ?_ (Nat.le_refl _) _ | refine Ch.stg ?_ (Nat.le_trans (by simp) HG.out.2.2) _))⟩
   | true =>
    have hr3 := Pm.ite_t HR.out g
    have HGr := Aside0.mk g
    clear g HR
    have HR := Aside0.mk hr3
    clear hr3
    refine (is_calls b X 1 Pm.wTo (Pm.nxt s3) _ (by with_reducible repeat (first | exact HP.out | apply PAt.al | apply PAt.dn | apply PAt.dr | refine PAt.st ?_ ⟨HG.out.1, HG.out.2.1⟩ _))).mono ?_; rintro e w1 ⟨rfl, hb⟩; rw [HGr.out]; have n0_ := Aside0.mk (PAt.below (by with_reducible repeat (first | exact HP.out | apply PAt.al | apply PAt.dn | apply PAt.dr | refine PAt.st ?_ ⟨HG.out.1, HG.out.2.1⟩ _)) hb); have n1_ := Aside0.mk (Ch.then_below (by with_reducible repeat (first | exact HC.out | apply Ch.alloc | apply Ch.drewN | apply Ch.drew | refine Ch.stg ?_ HG.out.2.2 _)) hb); have nx_ := Aside0.mk ((hb.block _ (pcell (HX.out)).2.2).trans (HX.out)); clear HP HC hb HX; have HP := n0_; have HC := n1_; have HX := nx_; clear n0_ n1_ nx_
    go_wp2_with fail
    refine (next_calls b X (Pm.nxt s3) _ (by with_reducible repeat (first | exact HP.out | apply PAt.al | apply PAt.dn | apply PAt.dr | refine PAt.st ?_ ⟨HG.out.1, HG.out.2.1⟩ _))).mono ?_; rintro e w1 ⟨rfl, hP, hC⟩; have n0_ := Aside0.mk hP; have n1_ := Aside0.mk (Ch.trans (by with_reducible repeat (first | exact HC.out | apply Ch.alloc | apply Ch.drewN | apply Ch.drew | refine Ch.stg ?_ HG.out.2.2 _)) hC); have nx_ := Aside0.mk ((hC.block _ (pcell (HX.out)).2.2 (fun e_ => Nat.ne_of_gt HG.out.1 e_)).trans (HX.out)); clear HP HC hP hC; have HP := n0_; have HC := n1_; clear n0_ n1_; (try clear HX); have HX := nx_; clear nx_
    go_wp2_with fail
    cases g : Pm.is X.e 1 Pm.wMax (Pm.nxt (Pm.nxt s3)) with
    | true =>
     obtain rfl := Option.some.inj (Pm.ite_t HR.out g)
     have HGr := Aside0.mk g
     clear g HR
     refine (is_calls b X 1 Pm.wMax (Pm.nxt (Pm.nxt s3)) _ (by with_reducible repeat (first | exact HP.out | apply PAt.al | apply PAt.dn | apply PAt.dr | refine PAt.st ?_ ⟨HG.out.1, HG.out.2.1⟩ _))).mono ?_; rintro e w1 ⟨rfl, hb⟩; rw [HGr.out]; have n0_ := Aside0.mk (PAt.below (by with_reducible repeat (first | exact HP.out | apply PAt.al | apply PAt.dn | apply PAt.dr | refine PAt.st ?_ ⟨HG.out.1, HG.out.2.1⟩ _)) hb); have n1_ := Aside0.mk (Ch.then_below (by with_reducible repeat (first | exact HC.out | apply Ch.alloc | apply Ch.drewN | apply Ch.drew | refine Ch.stg ?_ HG.out.2.2 _)) hb); have nx_ := Aside0.mk ((hb.block _ (pcell (HX.out)).2.2).trans (HX.out)); clear HP HC hb HX; have HP := n0_; have HC := n1_; have HX := nx_; clear n0_ n1_ nx_
     go_wp2_with fail
     refine (next_calls b X (Pm.nxt (Pm.nxt s3)) _ (by with_reducible repeat (first | exact HP.out | apply PAt.al | apply PAt.dn | apply PAt.dr | refine PAt.st ?_ ⟨HG.out.1, HG.out.2.1⟩ _))).mono ?_; rintro e w1 ⟨rfl, hP, hC⟩; have n0_ := Aside0.mk hP; have n1_ := Aside0.mk (Ch.trans (by with_reducible repeat (first | exact HC.out | apply Ch.alloc | apply Ch.drewN | apply Ch.drew | refine Ch.stg ?_ HG.out.2.2 _)) hC); have nx_ := Aside0.mk ((hC.block _ (pcell (HX.out)).2.2 (fun e_ => Nat.ne_of_gt HG.out.1 e_)).trans (HX.out)); clear HP HC hP hC; have HP := n0_; have HC := n1_; clear n0_ n1_; (try clear HX); have HX := nx_; clear nx_
     have bx0 := (HC.out.block W.heap.size (by simp) (fun e_ => Nat.ne_of_gt HB0.out e_)).trans (blk_new W _)
     obtain ⟨by1, byf, by3⟩ := pcell bx0
     have y0 := by1 0 _ rfl; have y1 := by1 1 _ rfl; have z0 := byf 0; have z1 := byf 1
     have hgn : W.heap.size < _ := Nat.lt_of_lt_of_le (by simp) HG.out.2.2
     have hn1 := Nat.ne_of_lt hgn
     have hn2 := Nat.ne_of_gt hgn
     clear bx0 by1 byf hgn
     obtain ⟨bx1, bxf, bx3⟩ := pcell HX.out; have x0 := bx1 0 _ rfl; have f0 := bxf 0; have x1 := bx1 1 _ rfl; have f1 := bxf 1; clear bx1 bxf
     go_wp2
     refine bodyPost_ret (v := .agg #[.int .i64 n, .int .i64 2147483647]) (by simp [results, Tryd.results79, go_sem, *]) rfl ?_
     exact ⟨rfl, (by with_reducible repeat (first | exact HP.out | refine PAt.st ?_ ⟨HB0.out, HP.out.ge⟩ _ | refine PAt.st ?_ ⟨HG.out.1, HG.out.2.1⟩ _)), (by with_reducible repeat (first | exact Ch.trans (Ch.alloc (Ch.refl _ _) _) HC.out | refine Ch.stg ?_ (Nat.le_refl _) _ | refine Ch.stg ?_ (Nat.le_trans (by simp) HG.out.2.2) _))⟩
    | false =>
     have hr3 := Pm.ite_f HR.out (fun h => by rw [g] at h; cases h)
     have HGr := Aside0.mk g
     clear g HR
     have HR := Aside0.mk hr3
     clear hr3
     refine (is_calls b X 1 Pm.wMax (Pm.nxt (Pm.nxt s3)) _ (by with_reducible repeat (first | exact HP.out | apply PAt.al | apply PAt.dn | apply PAt.dr | refine PAt.st ?_ ⟨HG.out.1, HG.out.2.1⟩ _))).mono ?_; rintro e w1 ⟨rfl, hb⟩; rw [HGr.out]; have n0_ := Aside0.mk (PAt.below (by with_reducible repeat (first | exact HP.out | apply PAt.al | apply PAt.dn | apply PAt.dr | refine PAt.st ?_ ⟨HG.out.1, HG.out.2.1⟩ _)) hb); have n1_ := Aside0.mk (Ch.then_below (by with_reducible repeat (first | exact HC.out | apply Ch.alloc | apply Ch.drewN | apply Ch.drew | refine Ch.stg ?_ HG.out.2.2 _)) hb); have nx_ := Aside0.mk ((hb.block _ (pcell (HX.out)).2.2).trans (HX.out)); clear HP HC hb HX; have HP := n0_; have HC := n1_; have HX := nx_; clear n0_ n1_ nx_
     go_wp2_with fail
     rcases hm : Pm.minus X.e true ((Pm.nxt (Pm.nxt s3))) with ⟨mg2, s5⟩; have hr2 := HR.out; rw [hm] at hr2; clear HR; have HR := Aside0.mk hr2; clear hr2; have hmc := minus_calls b X true ((Pm.nxt (Pm.nxt s3))) _ (by with_reducible repeat (first | exact HP.out | apply PAt.al | apply PAt.dn | apply PAt.dr | refine PAt.st ?_ ⟨HG.out.1, HG.out.2.1⟩ _)); rw [hm] at hmc; clear hm; refine hmc.mono ?_; clear hmc; rintro e w1 ⟨rfl, hP, hC⟩; have n0_ := Aside0.mk hP; have n1_ := Aside0.mk (Ch.trans (by with_reducible repeat (first | exact HC.out | apply Ch.alloc | apply Ch.drewN | apply Ch.drew | refine Ch.stg ?_ HG.out.2.2 _)) hC); have nx_ := Aside0.mk ((hC.block _ (pcell (HX.out)).2.2 (fun e_ => Nat.ne_of_gt HG.out.1 e_)).trans (HX.out)); clear HX; have HX := nx_; clear nx_; clear HP HC hP hC; have HP := n0_; have HC := n1_; clear n0_ n1_
     go_wp2_with fail
     rcases bo_cases HR.out with ⟨y, hy, hr2⟩ | ⟨q, s6, hy, hr2⟩; (clear HR; subst hr2; refine (bound_calls b X k mg2 true s5 _ hy _ (by with_reducible repeat (first | exact HP.out | apply PAt.al | apply PAt.dn | apply PAt.dr | refine PAt.st ?_ ⟨HG.out.1, HG.out.2.1⟩ _))).mono ?_; rintro e w1 ⟨rfl, hC⟩; exact ⟨rfl, rfl, Ch.trans (Ch.alloc (Ch.refl _ _) _) (Ch.trans (by with_reducible repeat (first | exact HC.out | apply Ch.alloc | apply Ch.drewN | apply Ch.drew | refine Ch.stg ?_ HG.out.2.2 _)) hC)⟩); ((try dsimp only at hr2); clear HR; have HR := Aside0.mk hr2; clear hr2; refine (bound_calls b X k mg2 true s5 _ hy _ (by with_reducible repeat (first | exact HP.out | apply PAt.al | apply PAt.dn | apply PAt.dr | refine PAt.st ?_ ⟨HG.out.1, HG.out.2.1⟩ _))).mono ?_; rintro e w1 ⟨rfl, hP, hC⟩; have n0_ := Aside0.mk hP; have n1_ := Aside0.mk (Ch.trans (by with_reducible repeat (first | exact HC.out | apply Ch.alloc | apply Ch.drewN | apply Ch.drew | refine Ch.stg ?_ HG.out.2.2 _)) hC); have nx_ := Aside0.mk ((hC.block _ (pcell (HX.out)).2.2 (fun e_ => Nat.ne_of_gt HG.out.1 e_)).trans (HX.out)); clear hP hC hy; (try clear HP); clear HC; have HP := n0_; have HC := n1_; clear n0_ n1_; (try clear HX); have HX := nx_; clear nx_)
     obtain ⟨bx1, bxf, bx3⟩ := pcell HX.out; have x0 := bx1 0 _ rfl; have f0 := bxf 0; have x1 := bx1 1 _ rfl; have f1 := bxf 1; clear bx1 bxf
     by_cases c : q < n
     ·obtain rfl := Option.some.inj (Pm.ite_t HR.out c)
      have cb : decide (q < n) = true := decide_eq_true c
      clear c HR
      go_wp2_with fail
      clear bx3 x0 f0 x1 f1
      refine (fail_calls b X 55 s6 _ (by with_reducible repeat (first | exact HP.out | apply PAt.al | apply PAt.dn | apply PAt.dr | refine PAt.st ?_ ⟨HG.out.1, HG.out.2.1⟩ _))).mono ?_; rintro e w1 ⟨rfl, hb⟩; exact ⟨rfl, rfl, Ch.trans (Ch.alloc (Ch.refl _ _) _) (Ch.then_below (by with_reducible repeat (first | exact HC.out | apply Ch.alloc | apply Ch.drewN | apply Ch.drew | refine Ch.stg ?_ HG.out.2.2 _)) hb)⟩
     ·obtain rfl := Option.some.inj (Pm.ite_f HR.out c)
      have cb : decide (q < n) = false := decide_eq_false c
      clear c HR
      go_wp2_with fail
      clear bx3 x0 f0 x1 f1
      refine (next_calls b X s6 _ (by with_reducible repeat (first | exact HP.out | apply PAt.al | apply PAt.dn | apply PAt.dr | refine PAt.st ?_ ⟨HG.out.1, HG.out.2.1⟩ _))).mono ?_; rintro e w1 ⟨rfl, hP, hC⟩; have n0_ := Aside0.mk hP; have n1_ := Aside0.mk (Ch.trans (by with_reducible repeat (first | exact HC.out | apply Ch.alloc | apply Ch.drewN | apply Ch.drew | refine Ch.stg ?_ HG.out.2.2 _)) hC); have nx_ := Aside0.mk ((hC.block _ (pcell (pset HX.out 1 _)).2.2 (fun e_ => Nat.ne_of_gt HG.out.1 e_)).trans (pset HX.out 1 _)); clear HP HC hP hC; have HP := n0_; have HC := n1_; clear n0_ n1_; (try clear HX); have HX := nx_; clear nx_
      have bx0 := (HC.out.block W.heap.size (by simp) (fun e_ => Nat.ne_of_gt HB0.out e_)).trans (blk_new W _)
      obtain ⟨by1, byf, by3⟩ := pcell bx0
      have y0 := by1 0 _ rfl; have y1 := by1 1 _ rfl; have z0 := byf 0; have z1 := byf 1
      have hgn : W.heap.size < _ := Nat.lt_of_lt_of_le (by simp) HG.out.2.2
      have hn1 := Nat.ne_of_lt hgn
      have hn2 := Nat.ne_of_gt hgn
      clear bx0 by1 byf hgn
      obtain ⟨bx1, bxf, bx3⟩ := pcell HX.out; have x0 := bx1 0 _ rfl; have f0 := bxf 0; have x1 := bx1 1 _ rfl; have f1 := bxf 1; clear bx1 bxf
      go_wp2
      refine bodyPost_ret (v := .agg #[.int .i64 n, .int .i64 q]) (by simp [results, Tryd.results79, go_sem, *]) rfl ?_
      exact ⟨rfl, (by with_reducible repeat (first | exact HP.out | refine PAt.st ?_ ⟨HB0.out, HP.out.ge⟩ _ | refine PAt.st ?_ ⟨HG.out.1, HG.out.2.1⟩ _)), (by with_reducible repeat (first | exact Ch.trans (Ch.alloc (Ch.refl _ _) _) HC.out | refine Ch.stg ?_ (Nat.le_refl _) _ | refine Ch.stg ?_ (Nat.le_trans (by simp) HG.out.2.2) _))⟩
def SR (b bm : Nat) (vr vg : Value) (k : Nat) : Prop := k = b ∨ k = bm ∨ some k = vr.ownBlock ∨ some k = vg.ownBlock
structure TB where
 (base b bm i j T : Nat) (cs : Array Value) (L : List Value)
def TI (t : TB) (W : World) (vr0 vg0 : Value) (w : World) (rows : List PRange) (gone : List ByteArray) : Prop :=
 ∃ vr vg, w.heap[t.bm]? = some (.cells ((t.cs.setIfInBounds t.i vr).setIfInBounds t.j vg) t.T (0, 0)) ∧ (t.base ≤ t.bm ∧ t.b < t.base ∧ t.i < t.j ∧ t.j < t.cs.size) ∧
  k116.R 116 w t.base (okL t.bm t.b (vg :: t.L)) vr rows ∧ Kd.string.R 9 w t.base (okL t.bm t.b (vr :: t.L)) vg gone ∧ Ch (SR t.b t.bm vr0 vg0) W w ∧
  (vr.ownBlock = vr0.ownBlock ∨ ∃ g, vr.ownBlock = some g ∧ W.heap.size ≤ g) ∧ (vg.ownBlock = vg0.ownBlock ∨ ∃ g, vg.ownBlock = some g ∧ W.heap.size ≤ g) ∧ (∀ v ∈ t.L, ∀ k, v.ownBlock = some k → k < W.heap.size)
theorem TI.chb {t : TB} {W : World} {vr0 vg0 : Value} {w w' : World} {rows : List PRange} {gone : List ByteArray} (h : TI t W vr0 vg0 w rows gone) (hc : Ch (· = t.b) w w') : TI t W vr0 vg0 w' rows gone := by
 obtain ⟨vr, vg, h0, hb, r1, r2, h1, h2⟩ := h
 have hlt := (Array.getElem?_eq_some_iff.1 h0).1
 exact ⟨vr, vg, (hc.block _ hlt (fun e => by have := hb.1; have := hb.2.1; omega)).trans h0, hb, row_ch r1 hc (fun k _ _ h _ => h), row_ch r2 hc (fun k _ _ h _ => h), h1.trans (hc.mono (fun _ _ h => .inl h)), h2⟩
theorem TI.lt {t : TB} {W : World} {vr0 vg0 : Value} {w : World} {rows : List PRange} {gone : List ByteArray} (h : TI t W vr0 vg0 w rows gone) : t.bm < w.heap.size ∧ t.base ≤ t.bm ∧ t.b < t.base := by
 obtain ⟨vr, vg, h0, hb, _⟩ := h
 exact ⟨(Array.getElem?_eq_some_iff.1 h0).1, hb.1, hb.2.1⟩
theorem TI.c {t : TB} {W : World} {vr0 vg0 : Value} {w : World} {rows : List PRange} {gone : List ByteArray} (h : TI t W vr0 vg0 w rows gone) : Ch (SR t.b t.bm vr0 vg0) W w := by
 obtain ⟨vr, vg, _, _, _, _, h, _⟩ := h
 exact h
theorem TI.row {t : TB} {W : World} {vr0 vg0 : Value} {w : World} {rows : List PRange} {gone : List ByteArray} (h : TI t W vr0 vg0 w rows gone) : ∃ v L, (w.cell? ⟨t.bm, t.i, none⟩ = some v ∧ (∀ j, w.frozen? ⟨t.bm, j, none⟩ = false) ∧ t.bm < w.heap.size) ∧ k116.R 116 w t.base (okL t.bm t.b L) v rows ∧ (∀ k, w.heap.size ≤ k → okL t.bm t.b L k) ∧ t.base ≤ w.heap.size ∧
  ∀ w9 v9 l9, k116.R 116 w9 t.base (okL t.bm t.b L) v9 l9 → w.grownBy w9 v.ownBlock → (v9.ownBlock = v.ownBlock ∨ ∃ g, v9.ownBlock = some g ∧ w.heap.size ≤ g) →
   (w9.cell? ⟨t.bm, t.i, none⟩ = some v ∧ (∀ j, w9.frozen? ⟨t.bm, j, none⟩ = false) ∧ t.bm < w9.heap.size) ∧ TI t W vr0 vg0 (w9.setCell ⟨t.bm, t.i, none⟩ v9) l9 gone ∧ Ch (fun k => t.base ≤ k) w (w9.setCell ⟨t.bm, t.i, none⟩ v9) := by
 obtain ⟨vr, vg, h0, hb, r1, r2, h1, a1, a2, hf⟩ := h
 have hbi := hb.2.2.1
 have hbj := hb.2.2.2
 have g0 := pcell h0
 have hne : some t.bm ≠ vr.ownBlock := fun e => (r1.1 t.bm e.symm).1 rfl
 have hblt : t.b < w.heap.size := by have := g0.2.2; have := hb.1; have := hb.2.1; omega
 refine ⟨vr, vg :: t.L, ⟨g0.1 t.i _ (by rw [Array.getElem?_setIfInBounds_ne (by omega), Array.getElem?_setIfInBounds_self_of_lt (by omega)]), g0.2.1, g0.2.2⟩, r1, row_fresh g0.2.2 hblt ?_, Nat.le_trans hb.1 (Nat.le_of_lt g0.2.2), fun w9 v9 l9 r9 hg hat => ⟨?_, ⟨v9, vg, ?_, hb, ?_, ?_, ?_, (hat.elim (fun e => a1.elim (fun e2 => .inl (e.trans e2)) (fun ⟨g, e2, e3⟩ => .inr ⟨g, e.trans e2, e3⟩)) (fun ⟨g, e, e2⟩ => .inr ⟨g, e, Nat.le_trans h1.size e2⟩)), a2, hf⟩, ?_⟩⟩
 ·intro v hv k hk
  simp only [List.mem_cons] at hv
  rcases hv with rfl | hv
  ·exact (row_lt r2 k hk).1
  ·exact Nat.lt_of_lt_of_le (hf v hv k hk) h1.size
 ·have g9 := pcell ((hg.block t.bm g0.2.2 hne).trans h0)
  exact ⟨g9.1 t.i _ (by rw [Array.getElem?_setIfInBounds_ne (by omega), Array.getElem?_setIfInBounds_self_of_lt (by omega)]), g9.2.1, g9.2.2⟩
 ·exact by have e := pset ((hg.block t.bm g0.2.2 hne).trans h0) t.i v9; rwa [Array.setIfInBounds_comm _ _ (by omega), Array.setIfInBounds_setIfInBounds] at e
 ·exact Kd.R_far r9 (fun k hk => hk.1) _
 ·exact Kd.R_far (row_other (L' := v9 :: t.L) r2 (by simp) hg hat (by intro u hu; simp only [List.mem_cons] at hu ⊢; rcases hu with h | h; exact .inr h; exact .inl (.inr h))) (fun k hk => hk.1) _
 ·exact Ch.set (Ch.then_grown h1 hg (fun k hk e => a1.elim (fun e2 => .inr (.inr (.inl (e.symm.trans e2)))) (fun ⟨g, e2, e3⟩ => by rw [e] at e2; injection e2 with e2; omega))) (fun _ => .inr (.inl rfl)) _
 ·exact Ch.set (Ch.then_grown (Ch.refl _ w) hg (fun k _ e => (row_lt r1 k e).2)) (fun _ => hb.1) _
theorem TI.gon {t : TB} {W : World} {vr0 vg0 : Value} {w : World} {rows : List PRange} {gone : List ByteArray} (h : TI t W vr0 vg0 w rows gone) : ∃ v L, (w.cell? ⟨t.bm, t.j, none⟩ = some v ∧ (∀ j, w.frozen? ⟨t.bm, j, none⟩ = false) ∧ t.bm < w.heap.size) ∧ Kd.string.R 9 w t.base (okL t.bm t.b L) v gone ∧ (∀ k, w.heap.size ≤ k → okL t.bm t.b L k) ∧ t.base ≤ w.heap.size ∧
  ∀ w9 v9 l9, Kd.string.R 9 w9 t.base (okL t.bm t.b L) v9 l9 → w.grownBy w9 v.ownBlock → (v9.ownBlock = v.ownBlock ∨ ∃ g, v9.ownBlock = some g ∧ w.heap.size ≤ g) →
   (w9.cell? ⟨t.bm, t.j, none⟩ = some v ∧ (∀ j, w9.frozen? ⟨t.bm, j, none⟩ = false) ∧ t.bm < w9.heap.size) ∧ TI t W vr0 vg0 (w9.setCell ⟨t.bm, t.j, none⟩ v9) rows l9 ∧ Ch (fun k => t.base ≤ k) w (w9.setCell ⟨t.bm, t.j, none⟩ v9) := by
 obtain ⟨vr, vg, h0, hb, r1, r2, h1, a1, a2, hf⟩ := h
 have hbi := hb.2.2.1
 have hbj := hb.2.2.2
 have g0 := pcell h0
 have hne : some t.bm ≠ vg.ownBlock := fun e => (r2.1 t.bm e.symm).1 rfl
 have hblt : t.b < w.heap.size := by have := g0.2.2; have := hb.1; have := hb.2.1; omega
 refine ⟨vg, vr :: t.L, ⟨g0.1 t.j _ (by rw [Array.getElem?_setIfInBounds_self_of_lt (by simpa using hb.2.2.2)]), g0.2.1, g0.2.2⟩, r2, row_fresh g0.2.2 hblt ?_, Nat.le_trans hb.1 (Nat.le_of_lt g0.2.2), fun w9 v9 l9 r9 hg hat => ⟨?_, ⟨vr, v9, ?_, hb, ?_, ?_, ?_, a1, (hat.elim (fun e => a2.elim (fun e2 => .inl (e.trans e2)) (fun ⟨g, e2, e3⟩ => .inr ⟨g, e.trans e2, e3⟩)) (fun ⟨g, e, e2⟩ => .inr ⟨g, e, Nat.le_trans h1.size e2⟩)), hf⟩, ?_⟩⟩
 ·intro v hv k hk
  simp only [List.mem_cons] at hv
  rcases hv with rfl | hv
  ·exact (row_lt r1 k hk).1
  ·exact Nat.lt_of_lt_of_le (hf v hv k hk) h1.size
 ·have g9 := pcell ((hg.block t.bm g0.2.2 hne).trans h0)
  exact ⟨g9.1 t.j _ (by rw [Array.getElem?_setIfInBounds_self_of_lt (by simpa using hb.2.2.2)]), g9.2.1, g9.2.2⟩
 ·exact by have e := pset ((hg.block t.bm g0.2.2 hne).trans h0) t.j v9; rwa [Array.setIfInBounds_setIfInBounds] at e
 ·exact Kd.R_far (row_other (L' := v9 :: t.L) r1 (by simp) hg hat (by intro u hu; simp only [List.mem_cons] at hu ⊢; rcases hu with h | h; exact .inr h; exact .inl (.inr h))) (fun k hk => hk.1) _
 ·exact Kd.R_far r9 (fun k hk => hk.1) _
 ·exact Ch.set (Ch.then_grown h1 hg (fun k hk e => a2.elim (fun e2 => .inr (.inr (.inr (e.symm.trans e2)))) (fun ⟨g, e2, e3⟩ => by rw [e] at e2; injection e2 with e2; omega))) (fun _ => .inr (.inl rfl)) _
 ·exact Ch.set (Ch.then_grown (Ch.refl _ w) hg (fun k _ e => (row_lt r2 k e).2)) (fun _ => hb.1) _
set_option maxHeartbeats 4000000 in
set_option maxRecDepth 100000 in
theorem mayWord_calls (k : Nat) (t : ByteArray) (m : Int) (W : World) (h : Pm.mayWord k t = some m) : Calls Tryd.prog 78 #[.string t] W fun e w' => e = .returned (.int .i64 m) ∧ Below W.heap.size W w' := by
 unfold Pm.mayWord at h
 by_cases c : (t.size : Int) > 255
 ·rw [if_pos c] at h
  obtain rfl := Option.some.inj h
  have cb : decide ((255 : Int) < (t.size : Int)) = true := decide_eq_true c
  clear c h
  go_enter Tryd.func78, Tryd.ntmps78
  go_wp2
  go_ret
  exact ⟨rfl, Below.refl _ _⟩
 ·rw [if_neg c] at h
  obtain ⟨ok, hok, h⟩ := Option.bind_eq_some_iff.mp h
  obtain rfl := Option.some.inj h
  have cb : decide ((255 : Int) < (t.size : Int)) = false := decide_eq_false c
  have HW := Aside0.mk (show parse_Word.f k t = some ok by unfold parse_Word.f; rw [hok]; rfl)
  clear c h hok
  cases ok with
  | true =>
   go_enter Tryd.func78, Tryd.ntmps78
   go_wp2_with fail
   refine (parse_Word.calls k _ _ _ HW.out).mono ?_; rintro e w9 ⟨rfl, ⟨nd, rfl⟩⟩
   go_wp2
   go_ret
   exact ⟨rfl, pw_below_drewN (Below.refl _ _) _⟩
  | false =>
   go_enter Tryd.func78, Tryd.ntmps78
   go_wp2_with fail
   refine (parse_Word.calls k _ _ _ HW.out).mono ?_; rintro e w9 ⟨rfl, ⟨nd, rfl⟩⟩
   go_wp2
   go_ret
   exact ⟨rfl, pw_below_drewN (Below.refl _ _) _⟩
end Go.Proofs.YtgkodenllfpajaaDoor.A
end
