/- For every text the law JsonCompacts (json.Compact answers what the document's Compact answers: the text without blanks, or the same fault at the same place; and the chapter's example) returns true and leaves its argument as it was; its card ties the table wire.rows to the program's text. No other condition. -/
import Derived.Test.YtbpiahpkbapijaaDoorQ9
import Derived.Test.YtbpiahpkbapijaaDoorQ11
import Derived.Test.YtbpiahpkbapijaaDoorQ3
import Derived.WalkLawsBesides
import Derived.Maps.AppendAt
import Derived.ArgAppend
import Derived.Deep.AppendLies
import Derived.Lib.FrozenHead2
import Derived.SizedLaws
import Derived.SliceStrings
import Derived.ChangeSlices
import Derived.Test.YtbpiahpkbapijaaDoorRows
import Derived.OpenShut
import Derived.ChangeArms
import Derived.LaidMore
import Derived.Deep.DeepHandedRow
import Derived.Lib.LaidTab
import Derived.Test.YtbpiahpkbapijaaDoorCards
import Derived.Test.YtbpiahpkbapijaaDoorTie
import Derived.WalkKit
import Derived.ProofKit
import Derived.ShutString
import Derived.ChangeOld
import Derived.Below
import Derived.Carry
section
namespace Go.Proofs.YtbpiahpkbapijaaDoor.J
open Go.RowKit Go.Proofs.YtbpiahpkbapijaaDoorW.PrintWords Go.Proofs.YtbpiahpkbapijaaDoorW.PrintLast Go.Proofs.YtbpiahpkbapijaaDoorW.PrintMore
set_option linter.unusedVariables false
set_option linter.unusedSimpArgs false
open Go.Proofs.YtbpiahpkbapijaaDoor.U
namespace Cpl
theorem Ev.pos {α : Type} {c : Prop} [Decidable c] {f g : Nat → Option α} {r : α} (h : c) (hf : Ev f r) : Ev (fun k => if c then f k else g k) r := Ev.congr (fun k => if_pos h) hf
theorem Ev.neg {α : Type} {c : Prop} [Decidable c] {f g : Nat → Option α} {r : α} (h : ¬ c) (hf : Ev g r) : Ev (fun k => if c then f k else g k) r := Ev.congr (fun k => if_neg h) hf
set_option maxRecDepth 100000 in
theorem blank_tab : ∀ n : Fin 256, (Js.blank (n.val : Int) = true) ↔ ((n.val : Int) = 32 ∨ (n.val : Int) = 9 ∨ (n.val : Int) = 10 ∨ (n.val : Int) = 13) := by decide +kernel
theorem blank_iff (t : ByteArray) (a : Int) : Js.blank (bt t a) = true ↔ (bt t a = 32 ∨ bt t a = 9 ∨ bt t a = 10 ∨ bt t a = 13) :=
 byte_all (P := fun c => Js.blank c = true ↔ (c = 32 ∨ c = 9 ∨ c = 10 ∨ c = 13)) blank_tab (bt_range t a).1 (bt_range t a).2
set_option maxRecDepth 100000 in
theorem isIn1_tab : ∀ m : Fin 256, m.val ∈ [46, 45, 58] → ∀ n : Fin 256, (Js.isIn ⟨#[m.val.toUInt8]⟩ (n.val : Int) = true) ↔ ((n.val : Int) = (m.val : Int)) := by decide +kernel
theorem isIn1 (m : Nat) (hm : m = 46 ∨ m = 45 ∨ m = 58) (t : ByteArray) (a : Int) : Js.isIn ⟨#[m.toUInt8]⟩ (bt t a) = true ↔ bt t a = (m : Int) := by
 have := isIn1_tab ⟨m, by omega⟩ (by simp; omega)
 exact byte_all (P := fun c => Js.isIn ⟨#[m.toUInt8]⟩ c = true ↔ c = (m : Int)) this (bt_range t a).1 (bt_range t a).2
set_option maxRecDepth 100000 in
theorem isInE_tab : ∀ n : Fin 256, (Js.isIn ⟨#[101, 69]⟩ (n.val : Int) = true) ↔ ((n.val : Int) = 101 ∨ (n.val : Int) = 69) := by decide +kernel
theorem isInE (t : ByteArray) (a : Int) : Js.isIn ⟨#[101, 69]⟩ (bt t a) = true ↔ (bt t a = 101 ∨ bt t a = 69) := byte_all (P := fun c => Js.isIn ⟨#[101, 69]⟩ c = true ↔ (c = 101 ∨ c = 69)) isInE_tab (bt_range t a).1 (bt_range t a).2
set_option maxRecDepth 100000 in
theorem isInP_tab : ∀ n : Fin 256, (Js.isIn ⟨#[43, 45]⟩ (n.val : Int) = true) ↔ ((n.val : Int) = 43 ∨ (n.val : Int) = 45) := by decide +kernel
theorem isInP (t : ByteArray) (a : Int) : Js.isIn ⟨#[43, 45]⟩ (bt t a) = true ↔ (bt t a = 43 ∨ bt t a = 45) := byte_all (P := fun c => Js.isIn ⟨#[43, 45]⟩ c = true ↔ (c = 43 ∨ c = 45)) isInP_tab (bt_range t a).1 (bt_range t a).2
set_option maxRecDepth 100000 in
theorem isInA_tab : ∀ n : Fin 256, (Js.isIn ⟨#[44, 93]⟩ (n.val : Int) = true) ↔ ((n.val : Int) = 44 ∨ (n.val : Int) = 93) := by decide +kernel
theorem isInA (t : ByteArray) (a : Int) : Js.isIn ⟨#[44, 93]⟩ (bt t a) = true ↔ (bt t a = 44 ∨ bt t a = 93) := byte_all (P := fun c => Js.isIn ⟨#[44, 93]⟩ c = true ↔ (c = 44 ∨ c = 93)) isInA_tab (bt_range t a).1 (bt_range t a).2
set_option maxRecDepth 100000 in
theorem isInO_tab : ∀ n : Fin 256, (Js.isIn ⟨#[44, 125]⟩ (n.val : Int) = true) ↔ ((n.val : Int) = 44 ∨ (n.val : Int) = 125) := by decide +kernel
theorem isInO (t : ByteArray) (a : Int) : Js.isIn ⟨#[44, 125]⟩ (bt t a) = true ↔ (bt t a = 44 ∨ bt t a = 125) := byte_all (P := fun c => Js.isIn ⟨#[44, 125]⟩ c = true ↔ (c = 44 ∨ c = 125)) isInO_tab (bt_range t a).1 (bt_range t a).2
theorem skip_ge {t : ByteArray} {a : Int} (h : a ≤ (t.size : Int)) : a ≤ Js.skip t a := (Js.skip_bound t _ a rfl h).1
theorem skip_le {t : ByteArray} {a : Int} (h : a ≤ (t.size : Int)) : Js.skip t a ≤ (t.size : Int) := (Js.skip_bound t _ a rfl h).2
theorem skip_stop (t : ByteArray) : ∀ (n : Nat) (a : Int), ((t.size : Int) - a).toNat = n → Js.skip t a < (t.size : Int) → Js.blank (bt t (Js.skip t a)) = false
 | 0, a, hn, h => by rw [Js.skip_eq, if_neg (by omega)] at h; omega
 | n + 1, a, hn, h => by
  rw [Js.skip_eq, if_pos (by omega)] at h ⊢
  by_cases c : Js.blank (bt t a) = true
  ·rw [if_pos c] at h ⊢
   exact skip_stop t n (a + 1) (by omega) h
  ·rw [if_neg c] at h ⊢
   simpa using c
theorem skip_idem (t : ByteArray) (a : Int) : Js.skip t (Js.skip t a) = Js.skip t a := by
 rw [Js.skip_eq t (Js.skip t a)]
 split
 ·rename_i h
  rw [skip_stop t _ a rfl h]
  rfl
 ·rfl
variable (t : ByteArray) (hs : t.size ≤ 67108864)
include hs
theorem blanks_ev (e p : Int) : ∀ (n : Nat) (a : Int), ((t.size : Int) - a).toNat = n → 0 ≤ a → a ≤ (t.size : Int) → Ev (fun k => T_blanks.l0 k t a e p) (t, Js.skip t a, e, p)
 | 0, a, hn, h0, h1 => Ev.step (f := fun _ => some (t, Js.skip t a, e, p)) (fun k => by simp only [T_blanks.l0]; rw [if_neg (by omega), Js.skip_eq, if_neg (by omega)]) (Ev.now _)
 | n + 1, a, hn, h0, h1 => by
  have hb := blank_iff t a
  by_cases c : Js.blank (bt t a) = true
  ·have ih := blanks_ev e p n (a + 1) (by omega) (by omega) (by omega)
   rw [Js.skip_eq, if_pos (by omega), if_pos c]
   refine Ev.step (f := fun k => T_blanks.l0 k t (a + 1) e p) (fun k => ?_) ih
   simp only [T_blanks.l0]
   rw [if_pos (by omega), if_pos h0, U.w64 (n := a + 1) (by omega) (by omega)]
   rcases hb.1 c with h | h | h | h <;> simp [h]
  ·rw [Js.skip_eq, if_pos (by omega), if_neg c]
   refine Ev.step (f := fun _ => some (t, a, e, p)) (fun k => ?_) (Ev.now _)
   simp only [T_blanks.l0]
   rw [hb] at c
   rw [if_pos (by omega), if_pos h0, if_neg (by omega), if_neg (by omega), if_neg (by omega), if_neg (by omega)]
def nx (t : ByteArray) (a : Int) : Int := if Js.skip t a < (t.size : Int) then bt t (Js.skip t a) else 0
theorem next_ev (e p a : Int) (h0 : 0 ≤ a) (h1 : a ≤ (t.size : Int)) : Ev (fun k => T_next.f k t a e p) (nx t a, t, Js.skip t a, e, p) := by
 have g0 := skip_ge h1
 unfold T_next.f T_blanks.f nx
 refine Ev.bind (blanks_ev t hs e p _ a rfl h0 h1) ?_
 dsimp only
 by_cases c : Js.skip t a < (t.size : Int)
 ·rw [if_pos c, if_pos (by omega), if_pos c]; exact Ev.now _
 ·rw [if_neg c, if_neg c]; exact Ev.now _
omit hs in
theorem fail_eq (a e p x y : Int) : T_fail.f t a e p x y = some (t, a, if e = 0 then x else e, if e = 0 then y else p) := by
 unfold T_fail.f; split <;> rfl
theorem sign_ev (e p a c : Int) (h0 : 0 ≤ a) (h1 : a ≤ (t.size : Int)) : Ev (fun k => T_sign.f k t a e p c) (if nx t a = c ∧ e = 0 then (t, Js.skip t a + 1, e, p) else (t, Js.skip t a, if e = 0 then 120 else e, if e = 0 then Js.skip t a else p)) := by
 have g0 := skip_ge h1
 have g1 := skip_le h1
 unfold T_sign.f
 refine Ev.bind (next_ev t hs e p a h0 h1) ?_
 dsimp only
 by_cases c1 : nx t a = c
 ·rw [if_pos c1]
  by_cases c2 : e = 0
  ·rw [if_pos c2, if_pos ⟨c1, c2⟩, U.w64 (by omega) (by omega)]; exact Ev.now _
  ·rw [if_neg c2, if_neg (fun h => c2 h.2), fail_eq]; exact Ev.now _
 ·rw [if_neg c1, if_neg (fun h => c1 h.1), fail_eq]; exact Ev.now _
theorem run_ev (s1 e p : Int) : ∀ (n : Nat) (a : Int), ((t.size : Int) - a).toNat = n → 0 ≤ a → a ≤ (t.size : Int) → Ev (fun k => T_run.l0 k a t s1 e p) (Js.run t a, t, s1, e, p)
 | 0, a, hn, h0, h1 => Ev.step (f := fun _ => some (Js.run t a, t, s1, e, p)) (fun k => by simp only [T_run.l0]; rw [if_neg (by omega), Js.run_eq, if_neg (by omega)]) (Ev.now _)
 | n + 1, a, hn, h0, h1 => by
  have ih := run_ev s1 e p n (a + 1) (by omega) (by omega) (by omega)
  rw [Js.run_eq, if_pos (by omega)]
  by_cases c1 : bt t a ≥ 48
  ·by_cases c2 : bt t a ≤ 57
   ·rw [if_pos (by unfold Js.digit; simp; omega)]
    refine Ev.step (f := fun k => T_run.l0 k (a + 1) t s1 e p) (fun k => ?_) ih
    simp only [T_run.l0]
    rw [if_pos (by omega), if_pos h0, if_pos c1, if_pos c2, U.w64 (by omega) (by omega)]
   ·rw [if_neg (by unfold Js.digit; simp; omega)]
    refine Ev.step (f := fun _ => some (a, t, s1, e, p)) (fun k => ?_) (Ev.now _)
    simp only [T_run.l0]
    rw [if_pos (by omega), if_pos h0, if_pos c1, if_neg c2]
  ·rw [if_neg (by unfold Js.digit; simp; omega)]
   refine Ev.step (f := fun _ => some (a, t, s1, e, p)) (fun k => ?_) (Ev.now _)
   simp only [T_run.l0]
   rw [if_pos (by omega), if_pos h0, if_neg c1]
theorem runf_ev (s1 e p a : Int) (h0 : 0 ≤ a) (h1 : a ≤ (t.size : Int)) : Ev (fun k => T_run.f k t s1 e p a) (Js.run t a, t, s1, e, p) := run_ev t hs s1 e p _ a rfl h0 h1
omit hs in
theorem run_ge (a : Int) : a ≤ Js.run t a := (Js.run_bound t _ a rfl).1
omit hs in
theorem run_le {a : Int} (h : a ≤ (t.size : Int)) : Js.run t a ≤ (t.size : Int) := (Js.run_bound t _ a rfl).2 h
theorem num7 (s1 e p x6 x7 : Int) (h0 : 0 ≤ x7) (h1 : x7 ≤ (t.size : Int)) : Ev (fun k => T_number.j7 k x6 x7 t s1 e p) (Js.expk t x7 x6, t, s1, e, p) := by
 have hr := runf_ev t hs s1 e p x7 h0 h1
 refine Ev.step (fun k => by rw [T_number.j7]) (Ev.bind hr ?_)
 dsimp only
 unfold Js.expk
 by_cases c : Js.run t x7 > x7
 ·rw [if_pos (by omega)]
  refine Ev.pos c (Ev.bind hr ?_)
  rw [show x7 + (Js.run t x7 - x7) = Js.run t x7 by omega]
  exact Ev.now _
 ·rw [if_neg (by omega)]; exact Ev.neg c (Ev.now _)
theorem num6 (s1 e p x6 x7 : Int) (b : Bool) (h0 : 0 ≤ x7) (h1 : x7 ≤ (t.size : Int)) (hb : b = true → x7 < (t.size : Int)) : Ev (fun k => T_number.j6 k x6 x7 b t s1 e p) (Js.expk t (if b = true then x7 + 1 else x7) x6, t, s1, e, p) := by
 refine Ev.step (fun k => by rw [T_number.j6]) ?_
 by_cases c : b = true
 ·have := hb c
  rw [if_pos c]
  refine Ev.pos c ?_
  rw [U.w64 (by omega) (by omega)]
  exact num7 t hs s1 e p x6 (x7 + 1) (by omega) (by omega)
 ·rw [if_neg c]
  exact Ev.neg c (num7 t hs s1 e p x6 x7 h0 h1)
theorem num5 (s1 e p x6 : Int) (b : Bool) (h0 : 0 ≤ x6) (h1 : x6 ≤ (t.size : Int)) (hb : b = true → x6 < (t.size : Int)) : Ev (fun k => T_number.j5 k x6 b t s1 e p)
  (if b = true then (if Js.is_ t (x6 + 1) ⟨#[43, 45]⟩ = true then Js.expk t (x6 + 1 + 1) x6 else Js.expk t (x6 + 1) x6) else x6, t, s1, e, p) := by
 refine Ev.step (fun k => by rw [T_number.j5]) ?_
 by_cases c : b = true
 ·have := hb c
  rw [if_pos c]
  refine Ev.pos c ?_
  rw [U.w64 (by omega) (by omega)]
  unfold Js.is_
  have hp := isInP t (x6 + 1)
  by_cases c2 : x6 + 1 < (t.size : Int)
  ·refine Ev.pos c2 (Ev.pos (by omega) ?_)
   rw [decide_eq_true c2, Bool.true_and]
   by_cases c3 : bt t (x6 + 1) = 43
   ·rw [if_pos (hp.2 (Or.inl c3))]
    refine Ev.pos c3 ?_
    exact num6 t hs s1 e p x6 (x6 + 1) true (by omega) (by omega) (fun _ => c2)
   ·refine Ev.neg c3 ?_
    have := num6 t hs s1 e p x6 (x6 + 1) (bt t (x6 + 1) == 45) (by omega) (by omega) (fun _ => c2)
    have q : (Js.isIn ⟨#[43, 45]⟩ (bt t (x6 + 1)) = true) ↔ ((bt t (x6 + 1) == 45) = true) := by rw [hp, beq_iff_eq]; omega
    by_cases c4 : (bt t (x6 + 1) == 45) = true
    ·rw [if_pos (q.2 c4)]; rwa [if_pos c4] at this
    ·rw [if_neg (fun h => c4 (q.1 h))]; rwa [if_neg c4] at this
  ·rw [decide_eq_false c2, Bool.false_and, if_neg (by decide)]
   refine Ev.neg c2 ?_
   exact num6 t hs s1 e p x6 (x6 + 1) false (by omega) (by omega) (fun h => by cases h)
 ·rw [if_neg c]
  exact Ev.neg c (Ev.now _)
theorem num4 (s1 e p x6 : Int) (h0 : 0 ≤ x6) (h1 : x6 ≤ (t.size : Int)) : Ev (fun k => T_number.j4 k x6 t s1 e p) (Js.expo t x6, t, s1, e, p) := by
 refine Ev.step (fun k => by rw [T_number.j4]) ?_
 unfold Js.expo
 have he := isInE t x6
 by_cases c : x6 < (t.size : Int)
 ·refine Ev.pos c (Ev.pos h0 ?_)
  have e1 : Js.is_ t x6 ⟨#[101, 69]⟩ = true ↔ (bt t x6 = 101 ∨ bt t x6 = 69) := by unfold Js.is_; rw [decide_eq_true c, Bool.true_and]; exact he
  by_cases c3 : bt t x6 = 101
  ·rw [if_pos (e1.2 (Or.inl c3))]
   refine Ev.pos c3 ?_
   have := num5 t hs s1 e p x6 true h0 h1 (fun _ => c)
   rwa [if_pos rfl] at this
  ·refine Ev.neg c3 ?_
   have := num5 t hs s1 e p x6 (bt t x6 == 69) h0 h1 (fun _ => c)
   by_cases c4 : (bt t x6 == 69) = true
   ·rw [if_pos (e1.2 (Or.inr (beq_iff_eq.1 c4)))]; rwa [if_pos c4] at this
   ·rw [if_neg (fun h => (e1.1 h).elim c3 (fun h => c4 (beq_iff_eq.2 h)))]; rwa [if_neg c4] at this
 ·have e1 : ¬ Js.is_ t x6 ⟨#[101, 69]⟩ = true := by unfold Js.is_; rw [decide_eq_false c, Bool.false_and]; decide
  rw [if_neg e1]
  refine Ev.neg c ?_
  have := num5 t hs s1 e p x6 false h0 h1 (fun h => by cases h)
  rwa [if_neg (by decide)] at this
theorem num3 (s1 e p x6 : Int) (b : Bool) (h0 : 0 ≤ x6) (h1 : x6 ≤ (t.size : Int)) (hb : b = true → x6 < (t.size : Int)) : Ev (fun k => T_number.j3 k x6 b t s1 e p) (Js.expo t (if b = true then Js.run t (x6 + 1) else x6), t, s1, e, p) := by
 refine Ev.step (fun k => by rw [T_number.j3]) ?_
 by_cases c : b = true
 ·have := hb c
  rw [if_pos c]
  refine Ev.pos c ?_
  rw [U.w64 (by omega) (by omega)]
  refine Ev.bind (runf_ev t hs s1 e p (x6 + 1) (by omega) (by omega)) ?_
  have g1 := run_ge t (x6 + 1)
  exact num4 t hs s1 e p _ (by omega) (run_le t (by omega))
 ·rw [if_neg c]
  exact Ev.neg c (num4 t hs s1 e p x6 h0 h1)
theorem num2 (s1 e p x6 : Int) (h0 : 0 ≤ x6) (h1 : x6 ≤ (t.size : Int)) : Ev (fun k => T_number.j2 k x6 t s1 e p) (Js.expo t (Js.dot t x6), t, s1, e, p) := by
 refine Ev.step (fun k => by rw [T_number.j2]) ?_
 unfold Js.dot
 have he := isIn1 46 (Or.inl rfl) t x6
 by_cases c : x6 < (t.size : Int)
 ·refine Ev.pos c (Ev.pos h0 ?_)
  have e1 : Js.is_ t x6 ⟨#[46]⟩ = true ↔ bt t x6 = 46 := by unfold Js.is_; rw [decide_eq_true c, Bool.true_and]; exact he
  by_cases c3 : bt t x6 = 46
  ·rw [if_pos (e1.2 c3)]
   refine Ev.pos c3 ?_
   rw [U.w64 (n := x6 + 1) (by omega) (by omega)]
   refine Ev.bind (runf_ev t hs s1 e p (x6 + 1) (by omega) (by omega)) ?_
   have := num3 t hs s1 e p x6 (decide (Js.run t (x6 + 1) > x6 + 1)) h0 h1 (fun _ => c)
   by_cases c4 : Js.run t (x6 + 1) > x6 + 1
   ·rw [if_pos (by omega), show x6 + (1 + (Js.run t (x6 + 1) - (x6 + 1))) = Js.run t (x6 + 1) by omega]
    rwa [if_pos (decide_eq_true c4)] at this
   ·rw [if_neg (by omega)]
    rwa [if_neg (by simpa using c4)] at this
  ·rw [if_neg (fun h => c3 (e1.1 h))]
   refine Ev.neg c3 ?_
   have := num3 t hs s1 e p x6 false h0 h1 (fun _ => c)
   rwa [if_neg (by decide)] at this
 ·have e1 : ¬ Js.is_ t x6 ⟨#[46]⟩ = true := by unfold Js.is_; rw [decide_eq_false c, Bool.false_and]; decide
  rw [if_neg e1]
  refine Ev.neg c ?_
  have := num3 t hs s1 e p x6 false h0 h1 (fun h => by cases h)
  rwa [if_neg (by decide)] at this
def numD (t : ByteArray) (a : Int) : Int := if Js.run t (Js.numA t a) = Js.numA t a then a else Js.expo t (Js.dot t (Js.numZ t (Js.numA t a)))
theorem num1 (s1 e p x1 x5 : Int) (h0 : 0 ≤ x5) (h1 : x5 ≤ (t.size : Int)) : Ev (fun k => T_number.j1 k x1 x5 t s1 e p) (if Js.run t x5 = x5 then x1 else Js.expo t (Js.dot t (Js.numZ t x5)), t, s1, e, p) := by
 refine Ev.step (fun k => by rw [T_number.j1]) (Ev.bind (runf_ev t hs s1 e p x5 h0 h1) ?_)
 dsimp only
 by_cases c : Js.run t x5 = x5
 ·rw [if_pos c]; exact Ev.pos c (Ev.now _)
 ·have g1 := run_ge t x5
  have g2 := run_le t h1
  have hl : x5 < (t.size : Int) := by omega
  rw [if_neg c]
  refine Ev.neg c (Ev.pos h0 (Ev.pos hl ?_))
  unfold Js.numZ
  by_cases c2 : bt t x5 = 48
  ·rw [if_pos c2]
   refine Ev.pos c2 ?_
   rw [U.w64 (by omega) (by omega)]
   exact num2 t hs s1 e p (x5 + 1) (by omega) (by omega)
  ·rw [if_neg c2, show x5 + (Js.run t x5 - x5) = Js.run t x5 by omega]
   refine Ev.neg c2 ?_
   exact num2 t hs s1 e p _ (by omega) g2
theorem number_ev (s1 e p a : Int) (h0 : 0 ≤ a) (h1 : a ≤ (t.size : Int)) : Ev (fun k => T_number.f k t s1 e p a) (numD t a, t, s1, e, p) := by
 unfold T_number.f numD
 have he := isIn1 45 (Or.inr (Or.inl rfl)) t a
 by_cases c : a < (t.size : Int)
 ·refine Ev.pos c (Ev.pos h0 ?_)
  refine Ev.step (fun k => by rw [T_number.j0]) ?_
  by_cases c2 : bt t a = 45
  ·have e1 : Js.numA t a = a + 1 := if_pos (by unfold Js.is_; rw [decide_eq_true c, Bool.true_and]; exact he.2 c2)
   refine Ev.pos (beq_iff_eq.2 c2) ?_
   rw [e1, U.w64 (by omega) (by omega)]
   exact num1 t hs s1 e p a (a + 1) (by omega) (by omega)
  ·have e1 : Js.numA t a = a := if_neg (by unfold Js.is_; rw [decide_eq_true c, Bool.true_and]; exact fun h => c2 (he.1 h))
   refine Ev.neg (fun h => c2 (beq_iff_eq.1 h)) ?_
   rw [e1]
   exact num1 t hs s1 e p a a h0 h1
 ·have e1 : Js.numA t a = a := if_neg (by unfold Js.is_; rw [decide_eq_false c, Bool.false_and]; decide)
  rw [e1]
  refine Ev.neg c (Ev.step (fun k => by rw [T_number.j0]) (Ev.neg (by decide) ?_))
  exact num1 t hs s1 e p a a h0 h1
end Cpl
end Go.Proofs.YtbpiahpkbapijaaDoor.J
end
section
namespace Go.Proofs.YtbpiahpkbapijaaDoor.J
open Go.RowKit Go.Proofs.YtbpiahpkbapijaaDoorW.PrintWords Go.Proofs.YtbpiahpkbapijaaDoorW.PrintLast Go.Proofs.YtbpiahpkbapijaaDoorW.PrintMore
set_option linter.unusedVariables false
set_option linter.unusedSimpArgs false
open Go.Proofs.YtbpiahpkbapijaaDoor.U
namespace Cpl
theorem hex_num {c : Int} (h0 : 0 ≤ c) (h1 : c ≤ 255) : (48 ≤ c ∧ c ≤ 57 → (c - 48) % 256 = c - 48) ∧ (97 ≤ c ∧ c ≤ 102 → (c - 97) % 256 = c - 97) ∧ (65 ≤ c ∧ c ≤ 70 → (c - 65) % 256 = c - 65) := by omega
set_option maxRecDepth 100000 in
theorem plain_tab : ∀ n : Fin 256, n.val ≠ 117 → ∃ v, R_plain.f 4 (n.val : Int) = some v ∧ (v < 0 ↔ Js.mean (n.val : Int) = 0) := by
 intro n
 have : ∀ n : Fin 256, n.val ≠ 117 → ((R_plain.f 4 (n.val : Int)).any fun v => decide (v < 0 ↔ Js.mean (n.val : Int) = 0)) = true := by decide +kernel
 intro h
 have := this n h
 cases hp : R_plain.f 4 (n.val : Int) with
 | none => rw [hp] at this; cases this
 | some v => rw [hp] at this; exact ⟨v, rfl, yQ this⟩
theorem mean_u : Js.mean 117 = 0 := by decide
variable (t : ByteArray) (hs : t.size ≤ 67108864)
include hs
theorem hexl (s1 e p at_ : Int) (h0 : 0 ≤ at_) (h4 : at_ + 4 ≤ (t.size : Int)) : ∀ (m : Nat) (x i : Int), i + m = 4 → 0 ≤ i → 0 ≤ x → x * (16 ^ m : Int) < 65536 →
  Ev (fun k => T_hex.l0 k at_ x i t s1 e p) (Js.hexN t m (at_ + i) x, t, s1, e, p)
 | 0, x, i, hi, hi0, hx, hb => by
  refine Ev.step (fun k => by rw [T_hex.l0]) (Ev.neg (by omega) ?_)
  exact Ev.now _
 | m + 1, x, i, hi, hi0, hx, hb => by
  have hp : (1 : Int) ≤ 16 ^ m := Int.pow_pos (by decide)
  have hb' : 16 * x * (16 ^ m : Int) < 65536 := by rw [Int.pow_succ] at hb; rw [Int.mul_comm 16 x, Int.mul_assoc, Int.mul_comm 16]; exact hb
  have hx16 : 16 * x < 65536 := by
   have := Int.mul_le_mul_of_nonneg_left hp (show 0 ≤ 16 * x by omega)
   omega
  have hx2 : x < 4096 := by omega
  obtain ⟨r0, r1⟩ := bt_range t (at_ + i)
  obtain ⟨n1, n2, n3⟩ := hex_num r0 r1
  have e16 : wrap64 (16 * x) = 16 * x := U.w64 (by omega) (by omega)
  have ei : wrap64 (i + 1) = i + 1 := U.w64 (by omega) (by omega)
  have go : ∀ y : Int, 0 ≤ y → y < 16 → Ev (fun k => T_hex.l0 k at_ (16 * x + y) (i + 1) t s1 e p) (Js.hexN t m (at_ + i + 1) (x * 16 + y), t, s1, e, p) := by
   intro y y0 y1
   have hsum : (16 * x + y) * (16 ^ m : Int) < 65536 := by
    have q : (16 : Int) ^ (m + 1) = 16 ^ m * 16 := Int.pow_succ 16 m
    by_cases hm : m = 0
    ·subst hm; simp; omega
    ·by_cases hm1 : m = 1
     ·subst hm1; simp at hb' ⊢; omega
     ·by_cases hm2 : m = 2
      ·subst hm2; simp at hb' ⊢; omega
      ·have : m = 3 := by omega
       subst this; simp at hb' ⊢; omega
   have := hexl s1 e p at_ h0 h4 m (16 * x + y) (i + 1) (by omega) (by omega) (by omega) hsum
   rw [show at_ + (i + 1) = at_ + i + 1 by omega] at this
   rwa [show x * 16 + y = 16 * x + y by omega]
  refine Ev.step (fun k => by rw [T_hex.l0]) (Ev.pos (by omega) ?_)
  rw [U.w64 (n := at_ + i) (by omega) (by omega), Js.hexN]
  refine Ev.pos (by omega) (Ev.pos (by omega) ?_)
  have j2f : ¬ (48 ≤ bt t (at_ + i) ∧ bt t (at_ + i) ≤ 57) → ∀ b : Bool, (b = true ↔ 97 ≤ bt t (at_ + i) ∧ bt t (at_ + i) ≤ 102) →
    Ev (fun k => T_hex.j2 k at_ x i (bt t (at_ + i)) b t s1 e p) (if Js.hexd (bt t (at_ + i)) < 0 then -1 else Js.hexN t m (at_ + i + 1) (x * 16 + Js.hexd (bt t (at_ + i))), t, s1, e, p) := by
   intro g1 b hb
   refine Ev.step (fun k => by rw [T_hex.j2]) ?_
   by_cases c : b = true
   ·have g2 := hb.1 c
    refine Ev.pos c ?_
    have e1 : Js.hexd (bt t (at_ + i)) = bt t (at_ + i) - 97 + 10 := by unfold Js.hexd; rw [if_neg g1, if_pos g2]
    rw [e1, if_neg (by omega), e16, n2 g2, U.w64 (n := 16 * x + (bt t (at_ + i) - 97)) (by omega) (by omega), U.w64 (n := 16 * x + (bt t (at_ + i) - 97) + 10) (by omega) (by omega), ei, Int.add_assoc (16 * x)]
    exact go _ (by omega) (by omega)
   ·have g2 : ¬ (97 ≤ bt t (at_ + i) ∧ bt t (at_ + i) ≤ 102) := fun h => c (hb.2 h)
    refine Ev.neg c ?_
    by_cases g3 : 65 ≤ bt t (at_ + i) ∧ bt t (at_ + i) ≤ 70
    ·have e1 : Js.hexd (bt t (at_ + i)) = bt t (at_ + i) - 65 + 10 := by unfold Js.hexd; rw [if_neg g1, if_neg g2, if_pos g3]
     refine Ev.pos g3.1 (Ev.pos g3.2 ?_)
     rw [e1, if_neg (by omega), e16, n3 g3, U.w64 (n := 16 * x + (bt t (at_ + i) - 65)) (by omega) (by omega), U.w64 (n := 16 * x + (bt t (at_ + i) - 65) + 10) (by omega) (by omega), ei, Int.add_assoc (16 * x)]
     exact go _ (by omega) (by omega)
    ·have e1 : Js.hexd (bt t (at_ + i)) = -1 := by unfold Js.hexd; rw [if_neg g1, if_neg g2, if_neg g3]
     rw [e1, if_pos (by decide)]
     by_cases g4 : bt t (at_ + i) ≥ 65
     ·exact Ev.pos g4 (Ev.neg (by omega) (Ev.now _))
     ·exact Ev.neg g4 (Ev.now _)
  have j1f : ∀ b : Bool, (b = true ↔ 48 ≤ bt t (at_ + i) ∧ bt t (at_ + i) ≤ 57) →
    Ev (fun k => T_hex.j1 k at_ x i (bt t (at_ + i)) b t s1 e p) (if Js.hexd (bt t (at_ + i)) < 0 then -1 else Js.hexN t m (at_ + i + 1) (x * 16 + Js.hexd (bt t (at_ + i))), t, s1, e, p) := by
   intro b hb
   refine Ev.step (fun k => by rw [T_hex.j1]) ?_
   by_cases c : b = true
   ·have g1 := hb.1 c
    refine Ev.pos c ?_
    have e1 : Js.hexd (bt t (at_ + i)) = bt t (at_ + i) - 48 := by unfold Js.hexd; rw [if_pos g1]
    rw [e1, if_neg (by omega), e16, n1 g1, U.w64 (n := 16 * x + (bt t (at_ + i) - 48)) (by omega) (by omega), ei]
    exact go _ (by omega) (by omega)
   ·have g1 : ¬ (48 ≤ bt t (at_ + i) ∧ bt t (at_ + i) ≤ 57) := fun h => c (hb.2 h)
    refine Ev.neg c ?_
    by_cases g4 : bt t (at_ + i) ≥ 97
    ·exact Ev.pos g4 (j2f g1 _ (by rw [decide_eq_true_iff]; omega))
    ·exact Ev.neg g4 (j2f g1 _ (by simp; omega))
  by_cases g4 : bt t (at_ + i) ≥ 48
  ·exact Ev.pos g4 (j1f _ (by rw [decide_eq_true_iff]; omega))
  ·exact Ev.neg g4 (j1f _ (by simp; omega))
def hexA (t : ByteArray) (a : Int) : Int := if a + 4 ≤ (t.size : Int) then Js.hexN t 4 a 0 else -1
theorem hex_ev (s1 e p a : Int) (h0 : 0 ≤ a) (h1 : a ≤ (t.size : Int) + 12) : Ev (fun k => T_hex.f k t s1 e p a) (hexA t a, t, s1, e, p) := by
 unfold T_hex.f hexA
 rw [U.w64 (by omega) (by omega)]
 by_cases c : a + 4 ≤ (t.size : Int)
 ·rw [if_pos c]
  refine Ev.neg (by omega) ?_
  have := hexl t hs s1 e p a h0 c 4 0 0 rfl (by decide) (by decide) (by decide)
  rwa [Int.add_zero] at this
 ·rw [if_neg c]
  exact Ev.pos (by omega) (Ev.now _)
omit hs in
theorem hexA_lt (a : Int) : hexA t a < 65536 := by
 unfold hexA
 split
 ·have := Js.hexN_lt t 4 a 0 1 (by decide) (by decide)
  exact this
 ·decide
omit hs in
theorem unitAt_hex {i : Int} (h : bt t i = 92) : Js.unitAt t i = if i + 1 < (t.size : Int) ∧ bt t (i + 1) = 117 then hexA t (i + 2) else -1 := by
 unfold Js.unitAt hexA
 by_cases c : i + 6 ≤ (t.size : Int) ∧ bt t i = 92 ∧ bt t (i + 1) = 117
 ·rw [if_pos c, if_pos ⟨by omega, c.2.2⟩, if_pos (by omega)]
 ·rw [if_neg c]
  by_cases c2 : i + 1 < (t.size : Int) ∧ bt t (i + 1) = 117
  ·rw [if_pos c2, if_neg (fun g => c ⟨by omega, h, c2.2⟩)]
  ·rw [if_neg c2]
omit hs in
theorem plain_ev (i : Int) (h : bt t i ≠ 117) : ∃ v, Ev (fun k => R_plain.f k (bt t i)) v ∧ (v < 0 ↔ Js.mean (bt t i) = 0) := by
 obtain ⟨v, hv, hm⟩ := byte_all (P := fun c => c ≠ 117 → ∃ v, R_plain.f 4 c = some v ∧ (v < 0 ↔ Js.mean c = 0)) (fun n h => plain_tab n (by omega)) (bt_range t i).1 (bt_range t i).2 h
 exact ⟨v, Ev.of (R_plain.mono _) hv, hm⟩
omit hs in
theorem char_ex (l : List Int) (c : Int) (hl : l.length ≤ 67108864) : ∃ l', R_character.f l c = some l' ∧ l'.length ≤ l.length + 4 := by
 unfold R_character.f
 split
 ·rw [if_pos (by omega)]; exact ⟨_, rfl, by simp⟩
 ·split
  ·refine ⟨_, by rw [Option.bind_some, if_pos (by simp; omega)], by simp⟩
  ·split
   ·refine ⟨_, by rw [Option.bind_some, if_pos (by simp; omega)], by simp⟩
   ·refine ⟨_, by rw [Option.bind_some, if_pos (by simp; omega)], by simp⟩
omit hs in
theorem mean_0 {i : Int} (h : bt t i = 117) : Js.mean (bt t i) = 0 := by rw [h]; exact mean_u
def escN (t : ByteArray) (i : Int) : Int := if i + 1 < (t.size : Int) ∧ Js.mean (bt t (i + 1)) ≠ 0 then i + 2 else if (Js.escAt t i).2 = 0 then 0 else i + (Js.escAt t i).2
omit hs in
theorem unitAt_in {i : Int} (h : 0 ≤ Js.unitAt t i) : i + 6 ≤ (t.size : Int) := by
 unfold Js.unitAt at h
 split at h
 ·rename_i g; exact g.1
 ·omega
omit hs in
theorem escN_in {i : Int} (h0 : 0 ≤ i) : escN t i = 0 ∨ (i + 2 ≤ escN t i ∧ escN t i ≤ (t.size : Int)) := by
 unfold escN
 split
 ·omega
 ·unfold Js.escAt
  by_cases g1 : Js.unitAt t i < 0 ∨ (56320 ≤ Js.unitAt t i ∧ Js.unitAt t i ≤ 57343)
  ·rw [if_pos g1, if_pos rfl]; omega
  ·have := unitAt_in t (i := i) (by omega)
   rw [if_neg g1]
   by_cases g2 : Js.unitAt t i < 55296 ∨ Js.unitAt t i > 56319
   ·rw [if_pos g2, if_neg (show ¬ (6 : Int) = 0 by decide)]; dsimp only; omega
   ·rw [if_neg g2]
    by_cases g3 : Js.unitAt t (i + 6) < 56320 ∨ Js.unitAt t (i + 6) > 57343
    ·rw [if_pos g3, if_pos rfl]; omega
    ·have := unitAt_in t (i := i + 6) (by omega)
     rw [if_neg g3, if_neg (show ¬ (12 : Int) = 0 by decide)]; dsimp only; omega
theorem escape_ev (s1 e p : Int) (l : List Int) (i : Int) (h0 : 0 ≤ i) (h1 : i < (t.size : Int)) (hb : bt t i = 92) (hl : l.length ≤ i) :
  ∃ l', Ev (fun k => T_escape.f k t s1 e p l i) (l', escN t i, t, s1, e, p) ∧ (escN t i ≠ 0 → l'.length ≤ escN t i) := by
 unfold T_escape.f
 have hu := unitAt_hex t hb
 rw [U.w64 (n := i + 1) (by omega) (by omega), U.w64 (n := i + 2) (by omega) (by omega)]
 by_cases c1 : i + 1 < (t.size : Int)
 ·by_cases c2 : bt t (i + 1) = 117
  ·have hm := mean_0 t c2
   rw [if_pos ⟨c1, c2⟩] at hu
   have eN : escN t i = if (Js.escAt t i).2 = 0 then 0 else i + (Js.escAt t i).2 := if_neg (fun g => g.2 hm)
   have hlt := hexA_lt t (i + 2)
   obtain ⟨a, ha⟩ : ∃ a, a = hexA t (i + 2) := ⟨_, rfl⟩
   have hh := hex_ev t hs s1 e p (i + 2) (by omega) (by omega)
   rw [← ha] at hu hlt hh
   have z0 : (Js.escAt t i) = (0, 0) → ∃ l', Ev (fun _ => some (l, (0 : Int), t, s1, e, p)) (l', escN t i, t, s1, e, p) ∧ (escN t i ≠ 0 → l'.length ≤ escN t i) := by
    intro g
    rw [eN, g, if_pos rfl]
    exact ⟨l, Ev.now _, fun h => absurd rfl h⟩
   have one : (Js.escAt t i).2 = 6 → 0 ≤ a → ∃ l', Ev (fun k => T_escape.j1 k l i a true t s1 e p) (l', escN t i, t, s1, e, p) ∧ (escN t i ≠ 0 → l'.length ≤ escN t i) := by
    intro g _
    obtain ⟨l', hc, hl'⟩ := char_ex l a (by omega)
    rw [eN, g, if_neg (by decide)]
    refine ⟨l', ?_, fun _ => by omega⟩
    refine Ev.step (fun k => by rw [T_escape.j1]) (Ev.pos rfl ?_)
    rw [hc, U.w64 (by omega) (by omega)]
    exact Ev.now _
   have j2t : Js.escAt t i = (0, 0) → ∃ l', Ev (fun k => T_escape.j2 k l i a true t s1 e p) (l', escN t i, t, s1, e, p) ∧ (escN t i ≠ 0 → l'.length ≤ escN t i) := by
    intro g
    obtain ⟨l', q, q2⟩ := z0 g
    exact ⟨l', Ev.step (fun k => by rw [T_escape.j2]) (Ev.pos rfl q), q2⟩
   have j0f : 0 ≤ a → ¬ (56320 ≤ a ∧ a ≤ 57343) → ∃ l', Ev (fun k => T_escape.j0 k l i a false t s1 e p) (l', escN t i, t, s1, e, p) ∧ (escN t i ≠ 0 → l'.length ≤ escN t i) := by
    intro a0 a1
    have eA : Js.escAt t i = if a < 55296 ∨ a > 56319 then (a, 6) else if Js.unitAt t (i + 6) < 56320 ∨ Js.unitAt t (i + 6) > 57343 then (0, 0) else (65536 + (a - 55296) * 1024 + (Js.unitAt t (i + 6) - 56320), 12) := by
     unfold Js.escAt; rw [hu, if_neg (by omega)]
    by_cases g1 : a < 55296
    ·obtain ⟨l', q, q2⟩ := one (by rw [eA, if_pos (Or.inl g1)]) a0
     exact ⟨l', Ev.step (fun k => by rw [T_escape.j0]) (Ev.neg (by decide) (Ev.pos g1 q)), q2⟩
    ·by_cases g2 : a > 57343
     ·obtain ⟨l', q, q2⟩ := one (by rw [eA, if_pos (Or.inr (by omega))]) a0
      refine ⟨l', Ev.step (fun k => by rw [T_escape.j0]) (Ev.neg (by decide) (Ev.neg g1 ?_)), q2⟩
      rw [decide_eq_true g2]; exact q
     ·rw [if_neg (by omega)] at eA
      have fin : ∀ {F : Nat → Option (List Int × Int × ByteArray × Int × Int × Int)}, (∃ l', Ev F (l', escN t i, t, s1, e, p) ∧ (escN t i ≠ 0 → l'.length ≤ escN t i)) → (∀ k, T_escape.j1 (k + 1) l i a false t s1 e p = F k) → ∃ l', Ev (fun k => T_escape.j0 k l i a false t s1 e p) (l', escN t i, t, s1, e, p) ∧ (escN t i ≠ 0 → l'.length ≤ escN t i) := by
       intro F hF hk
       obtain ⟨l', q, q2⟩ := hF
       refine ⟨l', Ev.step (fun k => by rw [T_escape.j0]) (Ev.neg (by decide) (Ev.neg g1 ?_)), q2⟩
       rw [decide_eq_false g2]
       exact Ev.step hk q
      have j1e : ∀ k, T_escape.j1 (k + 1) l i a false t s1 e p = if i + 7 ≥ (t.size : Int) then T_escape.j2 k l i a true t s1 e p else if bt t (i + 6) = 92 then T_escape.j2 k l i a (bt t (i + 7) != 117) t s1 e p else T_escape.j2 k l i a true t s1 e p := by
       intro k
       rw [T_escape.j1, if_neg (by decide), U.w64 (n := i + 7) (by omega) (by omega), U.w64 (n := i + 6) (by omega) (by omega)]
       by_cases q1 : i + 7 ≥ (t.size : Int)
       ·rw [if_pos q1, if_pos q1]
       ·rw [if_neg q1, if_neg q1, if_pos (show 0 ≤ i + 6 by omega), if_pos (show i + 6 < (t.size : Int) by omega), if_pos (show 0 ≤ i + 7 by omega), if_pos (show i + 7 < (t.size : Int) by omega)]
      by_cases q1 : i + 7 ≥ (t.size : Int)
      ·refine fin (j2t ?_) (fun k => by rw [j1e, if_pos q1])
       have := unitAt_in t (i := i + 6)
       rw [eA, if_pos (by omega)]
      ·by_cases q2 : bt t (i + 6) = 92
       ·have hu2 := unitAt_hex t q2
        rw [show i + 6 + 1 = i + 7 by omega, show i + 6 + 2 = i + 8 by omega] at hu2
        by_cases q3 : bt t (i + 7) = 117
        ·rw [if_pos ⟨by omega, q3⟩] at hu2
         refine fin (F := fun k => T_escape.j2 k l i a false t s1 e p) ?_ (fun k => by rw [j1e, if_neg q1, if_pos q2, show (bt t (i + 7) != 117) = false from bne_eq_false_iff_eq.mpr q3])
         have hh2 := hex_ev t hs s1 e p (i + 8) (by omega) (by omega)
         rw [← hu2] at hh2
         have hlt2 := hexA_lt t (i + 8)
         rw [← hu2] at hlt2
         have st : ∀ k, T_escape.j2 (k + 1) l i a false t s1 e p = (T_hex.f k t s1 e p (i + 8)).bind fun bt153 => (if bt153.1 < 56320 then (some (l, 0, bt153.2.1, bt153.2.2.1, bt153.2.2.2.1, bt153.2.2.2.2)) else (if bt153.1 > 57343 then (some (l, 0, bt153.2.1, bt153.2.2.1, bt153.2.2.2.1, bt153.2.2.2.2)) else ((R_character.f l (wrap64 ((wrap64 ((wrap64 (65536 + (wrap64 (1024 * (wrap64 (a - 55296)))))) + bt153.1)) - 56320))).bind fun t158 => (some (t158, wrap64 (i + 12), bt153.2.1, bt153.2.2.1, bt153.2.2.2.1, bt153.2.2.2.2))))) := by
          intro k
          rw [T_escape.j2, if_neg (by decide), U.w64 (n := i + 8) (by omega) (by omega)]
         by_cases w1 : Js.unitAt t (i + 6) < 56320
         ·obtain ⟨l', q, q'⟩ := z0 (by rw [eA, if_pos (Or.inl w1)])
          exact ⟨l', Ev.step st (Ev.bind hh2 (Ev.pos w1 q)), q'⟩
         ·by_cases w2 : Js.unitAt t (i + 6) > 57343
          ·obtain ⟨l', q, q'⟩ := z0 (by rw [eA, if_pos (Or.inr w2)])
           exact ⟨l', Ev.step st (Ev.bind hh2 (Ev.neg w1 (Ev.pos w2 q))), q'⟩
          ·rw [if_neg (by omega)] at eA
           obtain ⟨l', hc, hl'⟩ := char_ex l (wrap64 ((wrap64 ((wrap64 (65536 + (wrap64 (1024 * (wrap64 (a - 55296)))))) + Js.unitAt t (i + 6))) - 56320)) (by omega)
           rw [eN, eA, if_neg (show ¬ (12 : Int) = 0 by decide)]
           refine ⟨l', Ev.step st (Ev.bind hh2 (Ev.neg w1 (Ev.neg w2 ?_))), fun _ => by omega⟩
           dsimp only
           rw [hc, U.w64 (n := i + 12) (by omega) (by omega)]
           exact Ev.now _
        ·rw [if_neg (fun g => q3 g.2)] at hu2
         refine fin (j2t (by rw [eA, hu2, if_pos (by decide)])) (fun k => by rw [j1e, if_neg q1, if_pos q2, show (bt t (i + 7) != 117) = true from bne_iff_ne.mpr q3])
       ·refine fin (j2t ?_) (fun k => by rw [j1e, if_neg q1, if_neg q2])
        have : Js.unitAt t (i + 6) = -1 := by unfold Js.unitAt; rw [if_neg (fun g => q2 g.2.1)]
        rw [eA, this, if_pos (by decide)]
   have j0t : Js.escAt t i = (0, 0) → ∃ l', Ev (fun k => T_escape.j0 k l i a true t s1 e p) (l', escN t i, t, s1, e, p) ∧ (escN t i ≠ 0 → l'.length ≤ escN t i) := by
    intro g
    obtain ⟨l', q, q2⟩ := z0 g
    exact ⟨l', Ev.step (fun k => by rw [T_escape.j0]) (Ev.pos rfl q), q2⟩
   have body : ∃ l', Ev (fun k => if a < 0 then (T_escape.j0 k l i a true t s1 e p) else (if a ≥ 56320 then (T_escape.j0 k l i a (decide (a ≤ 57343)) t s1 e p) else (T_escape.j0 k l i a false t s1 e p))) (l', escN t i, t, s1, e, p) ∧ (escN t i ≠ 0 → l'.length ≤ escN t i) := by
    by_cases a0 : a < 0
    ·obtain ⟨l', q, q2⟩ := j0t (by unfold Js.escAt; rw [hu, if_pos (Or.inl a0)])
     exact ⟨l', Ev.pos a0 q, q2⟩
    ·by_cases a1 : a ≥ 56320
     ·by_cases a2 : a ≤ 57343
      ·obtain ⟨l', q, q2⟩ := j0t (by unfold Js.escAt; rw [hu, if_pos (Or.inr ⟨a1, a2⟩)])
       exact ⟨l', Ev.neg a0 (Ev.pos a1 (by rw [decide_eq_true a2]; exact q)), q2⟩
      ·obtain ⟨l', q, q2⟩ := j0f (by omega) (by omega)
       exact ⟨l', Ev.neg a0 (Ev.pos a1 (by rw [decide_eq_false a2]; exact q)), q2⟩
     ·obtain ⟨l', q, q2⟩ := j0f (by omega) (by omega)
      exact ⟨l', Ev.neg a0 (Ev.neg a1 q), q2⟩
   obtain ⟨l', q, q2⟩ := body
   exact ⟨l', Ev.neg (by omega) (Ev.pos (by omega) (Ev.pos c1 (Ev.pos c2 (Ev.bind hh q)))), q2⟩
  ·rw [if_neg (fun g => c2 g.2)] at hu
   have eA : Js.escAt t i = (0, 0) := by unfold Js.escAt; rw [hu, if_pos (by decide)]
   obtain ⟨v, hv, hm⟩ := plain_ev t (i + 1) c2
   by_cases v0 : v < 0
   ·have eN : escN t i = 0 := by unfold escN; rw [if_neg (fun g => g.2 (hm.1 v0)), eA, if_pos rfl]
    refine ⟨l, ?_, fun h => absurd eN h⟩
    rw [eN]
    exact Ev.neg (by omega) (Ev.pos (by omega) (Ev.pos c1 (Ev.neg c2 (Ev.bind hv (Ev.pos v0 (Ev.now _))))))
   ·have eN : escN t i = i + 2 := by unfold escN; rw [if_pos ⟨c1, fun g => v0 (hm.2 g)⟩]
    refine ⟨l ++ [v % 256], ?_, fun _ => by rw [eN]; simp; omega⟩
    rw [eN]
    exact Ev.neg (by omega) (Ev.pos (by omega) (Ev.pos c1 (Ev.neg c2 (Ev.bind hv (Ev.neg v0 (Ev.pos (by omega) (Ev.now _)))))))
 ·rw [if_neg (fun g => c1 g.1)] at hu
  have eA : Js.escAt t i = (0, 0) := by unfold Js.escAt; rw [hu, if_pos (by decide)]
  have eN : escN t i = 0 := by unfold escN; rw [if_neg (fun g => c1 g.1), eA, if_pos rfl]
  refine ⟨l, ?_, fun h => absurd eN h⟩
  rw [eN]
  exact Ev.pos (by omega) (Ev.now _)
end Cpl
end Go.Proofs.YtbpiahpkbapijaaDoor.J
end
section
namespace Go.Proofs.YtbpiahpkbapijaaDoor.J
open Go.RowKit Go.Proofs.YtbpiahpkbapijaaDoorW.PrintWords Go.Proofs.YtbpiahpkbapijaaDoorW.PrintLast Go.Proofs.YtbpiahpkbapijaaDoorW.PrintMore
set_option linter.unusedVariables false
set_option linter.unusedSimpArgs false
open Go.Proofs.YtbpiahpkbapijaaDoor.U
namespace Cpl
theorem fail0 (t : ByteArray) (a p x y : Int) : T_fail.f t a 0 p x y = some (t, a, x, y) := if_pos rfl
theorem strN_esc {t : ByteArray} {k : Nat} {i : Int} (h0 : 0 ≤ i) (h1 : i < (t.size : Int)) (hb : bt t i = 92) : Js.strN t (k + 1) i = if escN t i = 0 then -1 else Js.strN t k (escN t i) := by
 rw [Js.strN, if_neg (by omega), if_neg (by omega), if_neg (by omega), if_neg (by omega), (Js.esc_eq t i h0 (by omega)).1]
 unfold escN
 by_cases c : i + 1 < (t.size : Int) ∧ Js.mean (bt t (i + 1)) ≠ 0
 ·rw [if_pos c, if_pos c, if_neg (by omega)]
 ·rw [if_neg c, if_neg c]
  by_cases c2 : (Js.escAt t i).2 = 0
  ·rw [if_pos c2, if_pos c2, if_pos rfl]
  ·have := (Js.escAt_bound t i).1
   rw [if_neg c2, if_neg c2, if_neg (by omega)]
theorem strN_in (t : ByteArray) : ∀ (k : Nat) (i : Int), 0 ≤ i → Js.strN t k i = -1 ∨ (i ≤ Js.strN t k i ∧ Js.strN t k i < (t.size : Int))
 | 0, i, _ => Or.inl rfl
 | k + 1, i, h0 => by
  by_cases c1 : i ≥ (t.size : Int)
  ·rw [Js.strN, if_pos c1]; exact Or.inl rfl
  ·by_cases c2 : bt t i < 32
   ·rw [Js.strN, if_neg c1, if_pos c2]; exact Or.inl rfl
   ·by_cases c3 : bt t i = 34
    ·rw [Js.strN, if_neg c1, if_neg c2, if_pos c3]; omega
    ·by_cases c4 : bt t i = 92
     ·rw [strN_esc h0 (by omega) c4]
      split
      ·exact Or.inl rfl
      ·rename_i g
       have := escN_in t h0
       have := strN_in t k (escN t i) (by omega)
       omega
     ·rw [Js.strN, if_neg c1, if_neg c2, if_neg c3, if_pos c4]
      have := strN_in t k (i + 1) (by omega)
      omega
variable (t : ByteArray) (hs : t.size ≤ 67108864)
def TX (t : ByteArray) (A p q : Int) (x : ByteArray) : Int × Int × Int × ByteArray × List S67 × List S67 × ByteArray × Int × Int × Int :=
 if q < 0 then (3, A, 0, ⟨#[]⟩, [], [], t, A, 125, A) else (3, A, q + 1, x, [], [], t, q + 1, 0, p)
include hs
theorem text_l (A p : Int) : ∀ (k : Nat) (l : List Int) (i : Int), (t.size : Int) - i < k → 0 ≤ i → i ≤ (t.size : Int) → l.length ≤ i →
  ∃ x, Ev (fun j => T_text.l0 j l i t A 0 p 3 A 0 ⟨#[]⟩) (TX t A p (Js.strN t k i) x)
 | 0, l, i, hk, h0, h1, hl => absurd hk (by omega)
 | k + 1, l, i, hk, h0, h1, hl => by
  have no : Js.strN t (k + 1) i = -1 → ∀ x, TX t A p (Js.strN t (k + 1) i) x = (3, A, 0, ⟨#[]⟩, [], [], t, A, 125, A) := by
   intro g x; rw [g]; exact if_pos (by decide)
  by_cases c : i < (t.size : Int)
  ·have st : ∀ j, T_text.l0 (j + 1) l i t A 0 p 3 A 0 ⟨#[]⟩ = T_text.j1 j l i (bt t i != 34) t A 0 p 3 A 0 ⟨#[]⟩ := by
    intro j; rw [T_text.l0, if_pos c, if_pos h0]
   by_cases c3 : bt t i = 34
   ·have e : Js.strN t (k + 1) i = i := by rw [Js.strN, if_neg (by omega), if_neg (by omega), if_pos c3]
    refine ⟨strOfNums l, Ev.step st ?_⟩
    rw [show (bt t i != 34) = false from bne_eq_false_iff_eq.mpr c3, e]
    refine Ev.step (fun j => by rw [T_text.j1]) (Ev.neg (by decide) (Ev.neg (by omega) (Ev.pos h0 (Ev.pos c (Ev.pos c3 ?_)))))
    unfold TX
    rw [if_neg (by omega), U.w64 (by omega) (by omega)]
    exact Ev.now _
   ·have sj : ∀ j, T_text.j1 (j + 1) l i (bt t i != 34) t A 0 p 3 A 0 ⟨#[]⟩ =
      if bt t i < 32 then some (3, A, 0, ⟨#[]⟩, [], [], t, A, 125, A) else if bt t i = 92 then ((T_escape.f j t A 0 p l i).bind fun bt179 => (if bt179.2.1 = 0 then (if i ≥ (bt179.2.2.1.size : Int) then ((T_fail.f bt179.2.2.1 bt179.2.2.2.1 bt179.2.2.2.2.1 bt179.2.2.2.2.2 125 bt179.2.2.2.1).bind fun bt187 => (some (3, A, 0, ⟨#[]⟩, ([] : List (S67)), ([] : List (S67)), bt187.1, bt187.2.1, bt187.2.2.1, bt187.2.2.2))) else (if i < (bt179.2.2.1.size : Int) then (if (bt bt179.2.2.1 i) = 34 then (none) else ((T_fail.f bt179.2.2.1 bt179.2.2.2.1 bt179.2.2.2.2.1 bt179.2.2.2.2.2 125 bt179.2.2.2.1).bind fun bt191 => (some (3, A, 0, ⟨#[]⟩, ([] : List (S67)), ([] : List (S67)), bt191.1, bt191.2.1, bt191.2.2.1, bt191.2.2.2)))) else (none))) else (T_text.l0 j bt179.1 bt179.2.1 bt179.2.2.1 bt179.2.2.2.1 bt179.2.2.2.2.1 bt179.2.2.2.2.2 3 A 0 ⟨#[]⟩))) else T_text.l0 j (l ++ [bt t i]) (i + 1) t A 0 p 3 A 0 ⟨#[]⟩ := by
     intro j
     rw [show (bt t i != 34) = true from bne_iff_ne.mpr c3, T_text.j1, if_pos rfl, if_pos h0, if_pos c, fail0]
     by_cases d1 : bt t i < 32
     ·rw [if_pos d1, if_pos d1, if_neg (by omega), if_neg c3]; rfl
     ·rw [if_neg d1, if_neg d1]
      by_cases d2 : bt t i = 92
      ·rw [if_pos d2, if_pos d2]
      ·rw [if_neg d2, if_neg d2, if_pos (by omega), U.w64 (by omega) (by omega)]
    by_cases d1 : bt t i < 32
    ·refine ⟨⟨#[]⟩, ?_⟩
     rw [no (by rw [Js.strN, if_neg (by omega), if_pos d1])]
     exact Ev.step st (Ev.step sj (Ev.pos d1 (Ev.now _)))
    ·by_cases d2 : bt t i = 92
     ·obtain ⟨l', he, hl'⟩ := escape_ev t hs A 0 p l i h0 c d2 hl
      have eS := strN_esc (k := k) h0 c d2
      by_cases z : escN t i = 0
      ·rw [z] at he
       refine ⟨⟨#[]⟩, ?_⟩
       rw [no (by rw [eS, if_pos z])]
       refine Ev.step st (Ev.step sj (Ev.neg d1 (Ev.pos d2 (Ev.bind he ?_))))
       refine Ev.pos rfl (Ev.neg (show ¬ i ≥ (t.size : Int) by omega) (Ev.pos c (Ev.neg c3 ?_)))
       dsimp only
       rw [fail0]
       exact Ev.now _
      ·have hin := escN_in t h0
       obtain ⟨x, ih⟩ := text_l A p k l' (escN t i) (by omega) (by omega) (by omega) (hl' z)
       refine ⟨x, ?_⟩
       rw [eS, if_neg z]
       exact Ev.step st (Ev.step sj (Ev.neg d1 (Ev.pos d2 (Ev.bind he (Ev.neg z ih)))))
     ·obtain ⟨x, ih⟩ := text_l A p k (l ++ [bt t i]) (i + 1) (by omega) (by omega) (by omega) (by simp; omega)
      refine ⟨x, ?_⟩
      rw [Js.strN, if_neg (by omega), if_neg d1, if_neg c3, if_pos d2]
      exact Ev.step st (Ev.step sj (Ev.neg d1 (Ev.neg d2 ih)))
  ·refine ⟨⟨#[]⟩, ?_⟩
   rw [no (by rw [Js.strN, if_pos (by omega)])]
   refine Ev.step (fun j => by rw [T_text.l0]) (Ev.neg c ?_)
   refine Ev.step (fun j => by rw [T_text.j1]) (Ev.neg (by decide) (Ev.pos (by omega) ?_))
   rw [fail0]
   exact Ev.now _
theorem text_ev (A p : Int) (h0 : 0 ≤ A) (h1 : A < (t.size : Int)) : ∃ x, Ev (fun j => T_text.f j t A 0 p) (TX t A p (Js.strN t t.size (A + 1)) x) := by
 unfold T_text.f
 rw [U.w64 (by omega) (by omega)]
 exact text_l t hs A p t.size [] (A + 1) (by omega) (by omega) (by omega) (by simp; omega)
omit hs in
theorem prefix_iff (a : Int) (w : ByteArray) (h0 : 0 ≤ a) (h1 : a ≤ (t.size : Int)) : Lib.hasPrefix (t.extract a.toNat t.size).data.toList w.data.toList = true ↔ (a + w.size ≤ (t.size : Int) ∧ (t.extract a.toNat (a + w.size).toNat).toList = w.toList) := by
 have e := Lib.hasPrefix_raw (t.extract a.toNat t.size) w
 have hz := size_extract t a.toNat t.size (Nat.le_refl _)
 rw [← e, Bool.and_eq_true, decide_eq_true_iff, hz, beq_iff_eq]
 have x : w.size ≤ t.size - a.toNat → (t.extract a.toNat t.size).extract 0 w.size = t.extract a.toNat (a + w.size).toNat := by
  intro g
  have z1 : ((t.extract a.toNat t.size).extract 0 w.size).size = w.size := by rw [size_extract _ _ _ (by omega)]; omega
  have z2 : (t.extract a.toNat (a + w.size).toNat).size = w.size := by rw [size_extract _ _ _ (by omega)]; omega
  refine ext_bt (by omega) (fun i i0 i1 => ?_)
  rw [bt_extract _ _ _ (by omega) i i0 (by omega), bt_extract _ _ _ (by omega) _ (by omega) (by omega), bt_extract _ _ _ (by omega) i i0 (by omega)]
  congr 1
  omega
 constructor
 ·rintro ⟨g1, g2⟩
  rw [x g1] at g2
  exact ⟨by omega, g2⟩
 ·rintro ⟨g1, g2⟩
  have g : w.size ≤ t.size - a.toNat := by omega
  exact ⟨g, by rw [x g]; exact g2⟩
theorem word_eq (a p : Int) (w : ByteArray) (kind : Int) (h0 : 0 ≤ a) (h1 : a ≤ (t.size : Int)) (hw : w.size ≤ 100) :
  T_word.f t a 0 p w kind = some (if Lib.hasPrefix (t.extract a.toNat t.size).data.toList w.data.toList = true then (kind, a, a + w.size, ⟨#[]⟩, [], [], t, a + w.size, 0, p) else (kind, a, 0, ⟨#[]⟩, [], [], t, a, 120, a)) := by
 have hp := prefix_iff t a w h0 h1
 unfold T_word.f
 rw [U.w64 (n := (t.size : Int) - a) (by omega) (by omega), U.w64 (n := a + w.size) (by omega) (by omega), fail0]
 by_cases c1 : (t.size : Int) - a < (w.size : Int)
 ·rw [if_pos c1, if_neg (fun g => by have := (hp.1 g).1; omega)]
  rfl
 ·rw [if_neg c1, if_pos h0, if_pos (by omega), if_pos (by omega)]
  by_cases c2 : (t.extract a.toNat (a + w.size).toNat).toList = w.toList
  ·rw [if_pos c2, if_pos (hp.2 ⟨by omega, c2⟩)]
  ·rw [if_neg c2, if_neg (fun g => c2 (hp.1 g).2)]
   rfl
omit hs in
theorem expk_in {k e : Int} (hk : k ≤ (t.size : Int)) (he : e ≤ k) : e ≤ Js.expk t k e ∧ (e ≤ (t.size : Int) → Js.expk t k e ≤ (t.size : Int)) := by
 have := run_ge t k
 have := run_le t hk
 unfold Js.expk
 split <;> omega
omit hs in
theorem is_lt {e : Int} {l : ByteArray} (h : Js.is_ t e l = true) : e < (t.size : Int) := by
 unfold Js.is_ at h
 exact yQ ((Bool.and_eq_true _ _ ▸ h).1)
omit hs in
theorem expo_in {e : Int} (he : e ≤ (t.size : Int)) : e ≤ Js.expo t e ∧ Js.expo t e ≤ (t.size : Int) := by
 unfold Js.expo
 split
 ·rename_i g
  have := is_lt t g
  split
  ·rename_i g2
   have := is_lt t g2
   have := expk_in t (k := e + 1 + 1) (e := e) (by omega) (by omega)
   omega
  ·have := expk_in t (k := e + 1) (e := e) (by omega) (by omega)
   omega
 ·omega
omit hs in
theorem dot_in {e : Int} (he : e ≤ (t.size : Int)) : e ≤ Js.dot t e ∧ Js.dot t e ≤ (t.size : Int) := by
 unfold Js.dot
 split
 ·rename_i g
  have := is_lt t g
  have := run_ge t (e + 1)
  have := run_le t (a := e + 1) (by omega)
  split <;> omega
 ·omega
omit hs in
theorem numA_in {a : Int} (h1 : a ≤ (t.size : Int)) : a ≤ Js.numA t a ∧ Js.numA t a ≤ (t.size : Int) := by
 unfold Js.numA
 split
 ·rename_i g
  have := is_lt t g
  omega
 ·omega
omit hs in
theorem numD_in {a : Int} (h1 : a ≤ (t.size : Int)) (h : Js.run t (Js.numA t a) ≠ Js.numA t a) : numD t a = Js.expo t (Js.dot t (Js.numZ t (Js.numA t a))) ∧ a < numD t a ∧ numD t a ≤ (t.size : Int) := by
 have ha := numA_in t h1
 have := run_ge t (Js.numA t a)
 have := run_le t ha.2
 have e : numD t a = Js.expo t (Js.dot t (Js.numZ t (Js.numA t a))) := if_neg h
 have hz : Js.numA t a < Js.numZ t (Js.numA t a) ∧ Js.numZ t (Js.numA t a) ≤ (t.size : Int) := by
  unfold Js.numZ; split <;> omega
 have hd := dot_in t hz.2
 have hx := expo_in t hd.2
 rw [e]
 exact ⟨rfl, by omega, hx.2⟩
end Cpl
end Go.Proofs.YtbpiahpkbapijaaDoor.J
end
section
namespace Go.Proofs.YtbpiahpkbapijaaDoor.J
open Go.RowKit Go.Proofs.YtbpiahpkbapijaaDoorW.PrintWords Go.Proofs.YtbpiahpkbapijaaDoorW.PrintLast Go.Proofs.YtbpiahpkbapijaaDoorW.PrintMore
set_option linter.unusedVariables false
set_option linter.unusedSimpArgs false
open Go.Proofs.YtbpiahpkbapijaaDoor.U
namespace Cpl
theorem bytesOf_append (a b : ByteArray) : bytesOf (a ++ b) = bytesOf a ++ bytesOf b := by
 unfold bytesOf
 rw [ByteArray.toList_data_append, List.map_append]
theorem bytesOf_one (t : ByteArray) (a : Int) (h0 : 0 ≤ a) (h1 : a < (t.size : Int)) : bytesOf (t.extract a.toNat (a + 1).toNat) = [bt t a] := by
 have hz := size_extract t a.toNat (a + 1).toNat (by omega)
 have hl : (bytesOf (t.extract a.toNat (a + 1).toNat)).length = 1 := by rw [bytesOf_length]; omega
 match hx : bytesOf (t.extract a.toNat (a + 1).toNat), hl with
 | [c], _ =>
  have := rd_bytesOf (t.extract a.toNat (a + 1).toNat) 0
  rw [hx, bt_extract _ _ _ (by omega) 0 (by omega) (by omega)] at this
  rw [show ((a.toNat : Nat) : Int) + 0 = a by omega] at this
  rw [← this]
  rfl
theorem strOfNums_bytesOf (s : ByteArray) : strOfNums (bytesOf s) = s := by
 unfold strOfNums bytesOf
 apply ByteArray.ext
 apply Array.ext'
 simp only [List.map_map]
 have : ((fun n : Int => UInt8.ofNat n.toNat) ∘ fun b : UInt8 => (b.toNat : Int)) = id := by
  funext b
  simp
 simp [this]
theorem getD_mid {α : Type} (l m : List α) (x d : α) : (l ++ [x] ++ m).getD l.length d = x := by
 simp [List.getD_eq_getElem?_getD]
theorem token_l (x : ByteArray) (hx : x.size ≤ 140737488355328) : ∀ (d : Nat) (l : List Int) (i : Nat), x.size - i = d → i ≤ x.size → l.length + d < 140737488355328 →
  Ev (fun k => R_token.l0 k l x (i : Int)) (l ++ (bytesOf x).drop i)
 | 0, l, i, hd, hi, hl => by
  have hz := bytesOf_length x
  rw [List.drop_eq_nil_of_le (by omega), List.append_nil]
  exact Ev.step (fun k => by rw [R_token.l0]) (Ev.neg (by omega) (Ev.now _))
 | d + 1, l, i, hd, hi, hl => by
  have hz := bytesOf_length x
  have hr := rd_bytesOf x i
  have ih := token_l x hx d (l ++ [bt x i]) (i + 1) (by omega) (by omega) (by simp; omega)
  refine Ev.step (fun k => by rw [R_token.l0]) (Ev.pos (by omega) (Ev.pos (by omega) (Ev.pos (by omega) ?_)))
  rw [U.w64 (by omega) (by omega)]
  have e : l ++ (bytesOf x).drop i = l ++ [bt x i] ++ (bytesOf x).drop (i + 1) := by
   rw [List.drop_eq_getElem_cons (by omega), List.append_assoc, ← hr]
   unfold rd
   simp [List.getD_eq_getElem?_getD, List.getElem?_eq_getElem (show i < (bytesOf x).length by omega)]
  rw [e]
  exact ih
theorem token_ev (l : List Int) (x : ByteArray) (h : l.length + x.size < 140737488355328) : Ev (fun k => R_token.f k l x) (l ++ bytesOf x) := token_l x (by omega) x.size l 0 rfl (by omega) h
theorem app1_eq {l : List Int} (c : Int) (h : l.length < 140737488355328) : app1 l c = some (l ++ [c]) := if_pos h
theorem byteAt_eq {s : ByteArray} {a : Int} (h0 : 0 ≤ a) (h1 : a < (s.size : Int)) : byteAt s a = some (bt s a) := by unfold byteAt; rw [if_pos h0, if_pos h1]
theorem cutAt_eq {s : ByteArray} {a b : Int} (h0 : 0 ≤ a) (h1 : a ≤ b) (h2 : b ≤ (s.size : Int)) : cutAt s a b = some (s.extract a.toNat b.toNat) := by unfold cutAt; rw [if_pos h0, if_pos h1, if_pos h2]
def TI (t : ByteArray) (n : S67) (X : ByteArray) : Prop := ∀ l : List Int, l.length + X.size < 140737488355328 → Ev (fun j => tight.f j l t n) (l ++ bytesOf X)
theorem TI.leaf {t : ByteArray} {n : S67} (hk : ¬ (n.f0 = 1 ∨ n.f0 = 2)) (h0 : 0 ≤ n.f1) (h1 : n.f1 ≤ n.f2) (h2 : n.f2 ≤ (t.size : Int)) : TI t n (t.extract n.f1.toNat n.f2.toNat) := by
 intro l hl
 refine Ev.step (fun j => by rw [tight.f]) (Ev.neg hk ?_)
 rw [cutAt_eq h0 h1 h2]
 exact token_ev l _ hl
def RestA (t : ByteArray) (n : S67) (i : Nat) (X : ByteArray) : Prop := ∀ l : List Int, l.length + X.size < 140737488355328 → Ev (fun j => (tight.f j l t (n.f5.getD i z67)).bind fun l4 => tight.l j l4 t n (i + 1)) (l ++ bytesOf X)
def RestO (t : ByteArray) (n : S67) (i : Nat) (X : ByteArray) : Prop := ∀ l : List Int, l.length + X.size < 140737488355328 → Ev (fun j => ((cutAt t (n.f4.getD i z67).f1 (n.f4.getD i z67).f2).bind fun x => (R_token.f j l x).bind fun l2 => app1 l2 58).bind fun l3 => (tight.f j l3 t (n.f5.getD i z67)).bind fun l4 => tight.l j l4 t n (i + 1)) (l ++ bytesOf X)
theorem end_ev {t : ByteArray} {n : S67} {i : Nat} {E c : Int} {Y : ByteArray} (hs : t.size ≤ 67108864) (hi : n.f5.length ≤ i) (hE : n.f2 = E + 1) (h0 : 0 ≤ E) (h1 : E < (t.size : Int)) (hY : bytesOf Y = [bt t E]) (l : List Int) (hl : l.length < 140737488355328) :
  Ev (fun j => tight.l j l t n i) (l ++ bytesOf Y) := by
 refine Ev.step (fun j => by rw [tight.l]) (Ev.neg (by omega) ?_)
 rw [hE, U.w64 (by omega) (by omega), show E + 1 - 1 = E by omega, byteAt_eq h0 h1, Option.bind_some, app1_eq _ hl, hY]
 exact Ev.now _
theorem RestA.last {t : ByteArray} {n : S67} {i : Nat} {E : Int} {X Y : ByteArray} (hs : t.size ≤ 67108864) (hi : n.f5.length = i + 1) (hE : n.f2 = E + 1) (h0 : 0 ≤ E) (h1 : E < (t.size : Int)) (hY : bytesOf Y = [bt t E]) (hX : TI t (n.f5.getD i z67) X) : RestA t n i (X ++ Y) := by
 intro l hl
 have hz : Y.size = 1 := by have := bytesOf_length Y; rw [hY] at this; exact this.symm
 rw [ByteArray.size_append] at hl
 rw [bytesOf_append, ← List.append_assoc]
 exact Ev.bind (hX l (by omega)) (end_ev (c := 0) hs (by omega) hE h0 h1 hY _ (by rw [List.length_append, bytesOf_length]; omega))
theorem RestA.more {t : ByteArray} {n : S67} {i : Nat} {X S Y : ByteArray} (hk : n.f0 = 2) (hi : i + 1 < n.f5.length) (hS : bytesOf S = [44]) (hX : TI t (n.f5.getD i z67) X) (hY : RestA t n (i + 1) Y) : RestA t n i (X ++ S ++ Y) := by
 intro l hl
 have hz : S.size = 1 := by have := bytesOf_length S; rw [hS] at this; exact this.symm
 rw [ByteArray.size_append, ByteArray.size_append] at hl
 rw [bytesOf_append, bytesOf_append, ← List.append_assoc, ← List.append_assoc]
 refine Ev.bind (hX l (by omega)) (Ev.step (fun j => by rw [tight.l]) (Ev.pos hi ?_))
 rw [if_neg (by omega), app1_eq _ (by rw [List.length_append, bytesOf_length]; omega), hS]
 refine Ev.congr (fun j => by rw [Option.bind_some, if_neg (by omega), Option.bind_some]) ?_
 exact hY _ (by simp only [List.length_append, bytesOf_length, List.length_singleton]; omega)
theorem RestA.open_ {t : ByteArray} {n : S67} {B X : ByteArray} (hk : n.f0 = 2) (hi : 0 < n.f5.length) (h0 : 0 ≤ n.f1) (h1 : n.f1 < (t.size : Int)) (hB : bytesOf B = [bt t n.f1]) (hX : RestA t n 0 X) : TI t n (B ++ X) := by
 intro l hl
 have hz : B.size = 1 := by have := bytesOf_length B; rw [hB] at this; exact this.symm
 rw [ByteArray.size_append] at hl
 rw [bytesOf_append, ← List.append_assoc, hB]
 refine Ev.step (fun j => by rw [tight.f]) (Ev.pos (Or.inr hk) ?_)
 refine Ev.congr (fun j => by rw [byteAt_eq h0 h1, Option.bind_some, app1_eq _ (by omega), Option.bind_some]) ?_
 refine Ev.step (fun j => by rw [tight.l]) (Ev.pos hi ?_)
 refine Ev.congr (fun j => by rw [if_pos rfl, Option.bind_some, if_neg (by omega), Option.bind_some]) ?_
 exact hX _ (by simp only [List.length_append, List.length_singleton]; omega)
theorem TI.empty {t : ByteArray} {n : S67} {E : Int} {B Y : ByteArray} (hs : t.size ≤ 67108864) (hk : n.f0 = 1 ∨ n.f0 = 2) (hi : n.f5 = []) (h0 : 0 ≤ n.f1) (h1 : n.f1 < (t.size : Int)) (hB : bytesOf B = [bt t n.f1]) (hE : n.f2 = E + 1) (g0 : 0 ≤ E) (g1 : E < (t.size : Int)) (hY : bytesOf Y = [bt t E]) : TI t n (B ++ Y) := by
 intro l hl
 have hz : B.size = 1 := by have := bytesOf_length B; rw [hB] at this; exact this.symm
 have hz2 : Y.size = 1 := by have := bytesOf_length Y; rw [hY] at this; exact this.symm
 rw [ByteArray.size_append] at hl
 rw [bytesOf_append, ← List.append_assoc, hB]
 refine Ev.step (fun j => by rw [tight.f]) (Ev.pos hk ?_)
 refine Ev.congr (fun j => by rw [byteAt_eq h0 h1, Option.bind_some, app1_eq _ (by omega), Option.bind_some]) ?_
 exact end_ev (c := 0) hs (by rw [hi]; exact Nat.le_refl _) hE g0 g1 hY _ (by simp only [List.length_append, List.length_singleton]; omega)
theorem name_ev {t : ByteArray} {a b : Int} {C : ByteArray} (h0 : 0 ≤ a) (h1 : a ≤ b) (h2 : b ≤ (t.size : Int)) (hC : bytesOf C = [58]) {F : Nat → List Int → Option (List Int)} {r : List Int} (l : List Int) (hl : l.length + (b - a) + 1 < 140737488355328)
  (hF : Ev (fun j => F j (l ++ bytesOf (t.extract a.toNat b.toNat) ++ bytesOf C)) r) : Ev (fun j => ((cutAt t a b).bind fun x => (R_token.f j l x).bind fun l2 => app1 l2 58).bind (F j)) r := by
 have hz := size_extract t a.toNat b.toNat (by omega)
 refine Ev.congr (fun j => by rw [cutAt_eq h0 h1 h2, Option.bind_some]) ?_
 refine Ev.bind (Ev.bind (token_ev l _ (by omega)) ?_) hF
 rw [app1_eq _ (by simp only [List.length_append, bytesOf_length]; omega), hC]
 exact Ev.now _
theorem RestO.last {t : ByteArray} {n : S67} {i : Nat} {E : Int} {C X Y : ByteArray} (hs : t.size ≤ 67108864) (hi : n.f5.length = i + 1) (hE : n.f2 = E + 1) (h0 : 0 ≤ E) (h1 : E < (t.size : Int)) (hY : bytesOf Y = [bt t E]) (hX : TI t (n.f5.getD i z67) X)
  (g0 : 0 ≤ (n.f4.getD i z67).f1) (g1 : (n.f4.getD i z67).f1 ≤ (n.f4.getD i z67).f2) (g2 : (n.f4.getD i z67).f2 ≤ (t.size : Int)) (hC : bytesOf C = [58]) :
  RestO t n i (t.extract (n.f4.getD i z67).f1.toNat (n.f4.getD i z67).f2.toNat ++ C ++ X ++ Y) := by
 intro l hl
 have hz : Y.size = 1 := by have := bytesOf_length Y; rw [hY] at this; exact this.symm
 have hzc : C.size = 1 := by have := bytesOf_length C; rw [hC] at this; exact this.symm
 have hze := size_extract t (n.f4.getD i z67).f1.toNat (n.f4.getD i z67).f2.toNat (by omega)
 simp only [ByteArray.size_append] at hl
 simp only [bytesOf_append, ← List.append_assoc]
 refine name_ev g0 g1 g2 hC (F := fun j l3 => (tight.f j l3 t (n.f5.getD i z67)).bind fun l4 => tight.l j l4 t n (i + 1)) l (by omega) ?_
 exact Ev.bind (hX _ (by simp only [List.length_append, bytesOf_length]; omega)) (end_ev (c := 0) hs (by omega) hE h0 h1 hY _ (by simp only [List.length_append, bytesOf_length]; omega))
theorem RestO.more {t : ByteArray} {n : S67} {i : Nat} {C X S Y : ByteArray} (hk : n.f0 = 1) (h4 : n.f4.length = n.f5.length) (hi : i + 1 < n.f5.length) (hS : bytesOf S = [44]) (hX : TI t (n.f5.getD i z67) X) (hY : RestO t n (i + 1) Y)
  (g0 : 0 ≤ (n.f4.getD i z67).f1) (g1 : (n.f4.getD i z67).f1 ≤ (n.f4.getD i z67).f2) (g2 : (n.f4.getD i z67).f2 ≤ (t.size : Int)) (hC : bytesOf C = [58]) :
  RestO t n i (t.extract (n.f4.getD i z67).f1.toNat (n.f4.getD i z67).f2.toNat ++ C ++ X ++ S ++ Y) := by
 intro l hl
 have hz : S.size = 1 := by have := bytesOf_length S; rw [hS] at this; exact this.symm
 have hzc : C.size = 1 := by have := bytesOf_length C; rw [hC] at this; exact this.symm
 have hze := size_extract t (n.f4.getD i z67).f1.toNat (n.f4.getD i z67).f2.toNat (by omega)
 simp only [ByteArray.size_append] at hl
 simp only [bytesOf_append, ← List.append_assoc]
 refine name_ev g0 g1 g2 hC (F := fun j l3 => (tight.f j l3 t (n.f5.getD i z67)).bind fun l4 => tight.l j l4 t n (i + 1)) l (by omega) ?_
 refine Ev.bind (hX _ (by simp only [List.length_append, bytesOf_length]; omega)) (Ev.step (fun j => by rw [tight.l]) (Ev.pos hi ?_))
 rw [if_neg (by omega), app1_eq _ (by simp only [List.length_append, bytesOf_length]; omega), hS]
 refine Ev.congr (fun j => by rw [Option.bind_some, if_pos hk, if_pos (show i + 1 < n.f4.length by omega)]) ?_
 exact hY _ (by simp only [List.length_append, bytesOf_length, List.length_singleton]; omega)
theorem RestO.open_ {t : ByteArray} {n : S67} {B X : ByteArray} (hk : n.f0 = 1) (h4 : n.f4.length = n.f5.length) (hi : 0 < n.f5.length) (h0 : 0 ≤ n.f1) (h1 : n.f1 < (t.size : Int)) (hB : bytesOf B = [bt t n.f1]) (hX : RestO t n 0 X) : TI t n (B ++ X) := by
 intro l hl
 have hz : B.size = 1 := by have := bytesOf_length B; rw [hB] at this; exact this.symm
 rw [ByteArray.size_append] at hl
 rw [bytesOf_append, ← List.append_assoc, hB]
 refine Ev.step (fun j => by rw [tight.f]) (Ev.pos (Or.inl hk) ?_)
 refine Ev.congr (fun j => by rw [byteAt_eq h0 h1, Option.bind_some, app1_eq _ (by omega), Option.bind_some]) ?_
 refine Ev.step (fun j => by rw [tight.l]) (Ev.pos hi ?_)
 refine Ev.congr (fun j => by rw [if_pos rfl, Option.bind_some, if_pos hk, if_pos (show 0 < n.f4.length by omega)]) ?_
 exact hX _ (by simp only [List.length_append, List.length_singleton]; omega)
theorem peek_eq {t : ByteArray} {s : JS} (h : s.at_ ≤ (t.size : Int)) : Js.peek t s = if Js.skip t s.at_ < (t.size : Int) then .ok (nx t s.at_, ⟨Js.skip t s.at_, s.op, s.out⟩) else .error (120, Js.skip t s.at_) := by
 have := skip_le h
 unfold Js.peek nx
 by_cases c : Js.skip t s.at_ < (t.size : Int)
 ·rw [if_neg (by omega), if_pos c, if_pos c]
 ·rw [if_pos (by omega), if_neg c, show Js.skip t s.at_ = (t.size : Int) by omega]
theorem sign_eq {t : ByteArray} {s : JS} (L : ByteArray) (h : s.at_ ≤ (t.size : Int)) : Js.sign t L s = if Js.skip t s.at_ < (t.size : Int) ∧ Js.isIn L (nx t s.at_) = true then .ok (nx t s.at_, ⟨Js.skip t s.at_ + 1, s.op, s.out ++ t.extract (Js.skip t s.at_).toNat (Js.skip t s.at_ + 1).toNat⟩) else .error (120, Js.skip t s.at_) := by
 unfold Js.sign
 rw [peek_eq h]
 by_cases c : Js.skip t s.at_ < (t.size : Int)
 ·rw [if_pos c]
  dsimp only
  by_cases c2 : Js.isIn L (nx t s.at_) = true
  ·rw [if_pos c2, if_pos ⟨c, c2⟩]; rfl
  ·rw [if_neg c2, if_neg (fun g => c2 g.2)]
 ·rw [if_neg c, if_neg (fun g => c g.1)]
theorem nx_at {t : ByteArray} {a : Int} (h : Js.skip t a < (t.size : Int)) : nx t a = bt t (Js.skip t a) := if_pos h
theorem nx_end {t : ByteArray} {a : Int} (h : ¬ Js.skip t a < (t.size : Int)) : nx t a = 0 := if_neg h
theorem nx_skip (t : ByteArray) (a : Int) : nx t (Js.skip t a) = nx t a := by unfold nx; rw [skip_idem]
end Cpl
end Go.Proofs.YtbpiahpkbapijaaDoor.J
end
section
namespace Go.Proofs.YtbpiahpkbapijaaDoor.J
open Go.RowKit Go.Proofs.YtbpiahpkbapijaaDoorW.PrintWords Go.Proofs.YtbpiahpkbapijaaDoorW.PrintLast Go.Proofs.YtbpiahpkbapijaaDoorW.PrintMore
set_option linter.unusedVariables false
set_option linter.unusedSimpArgs false
open Go.Proofs.YtbpiahpkbapijaaDoor.U
namespace Cpl
abbrev Tup := Int × Int × Int × ByteArray × List S67 × List S67 × ByteArray × Int × Int × Int
def tup (n : S67) (t : ByteArray) (a e p : Int) : Tup := (n.f0, n.f1, n.f2, n.f3, n.f4, n.f5, t, a, e, p)
theorem eta67 (n : S67) : (⟨n.f0, n.f1, n.f2, n.f3, n.f4, n.f5⟩ : S67) = n := by cases n; rfl
def VRel (t : ByteArray) (s : JS) (p : Int) (n : S67) (a' e' p' : Int) : JR JS → Prop
 | .error x => e' = x.1 ∧ p' = x.2 ∧ x.1 ≠ 0
 | .ok s' => e' = 0 ∧ p' = p ∧ a' = s'.at_ ∧ s'.op = s.op ∧ s.at_ < s'.at_ ∧ s'.at_ ≤ (t.size : Int) ∧ ∃ X, s'.out = s.out ++ X ∧ (X.size : Int) ≤ s'.at_ - s.at_ ∧ 0 < X.size ∧ TI t n X
def ERel (Rest : ByteArray → S67 → Nat → ByteArray → Prop) (kind : Int) (t : ByteArray) (s : JS) (p A : Int) (names ins : List S67) (n : S67) (a' e' p' : Int) : JR JS → Prop
 | .error x => e' = x.1 ∧ p' = x.2 ∧ x.1 ≠ 0
 | .ok s' => e' = 0 ∧ p' = p ∧ a' = s'.at_ ∧ s'.op = s.op - 1 ∧ s.at_ < s'.at_ ∧ s'.at_ ≤ (t.size : Int) ∧ n.f0 = kind ∧ n.f1 = A ∧ n.f2 = s'.at_ ∧ (∃ x more, n.f5 = ins ++ x :: more) ∧ (∃ more, n.f4 = names ++ more) ∧ (names.length = ins.length → kind = 1 → n.f4.length = n.f5.length) ∧
   ∃ X, s'.out = s.out ++ X ∧ (X.size : Int) ≤ s'.at_ - s.at_ ∧ 0 < X.size ∧ Rest t n ins.length X
structure Sok (t : ByteArray) (s : JS) : Prop where mk ::
 a0 : 0 ≤ s.at_
 a1 : s.at_ ≤ (t.size : Int)
 o0 : 0 ≤ s.op
 o1 : s.op ≤ 200
theorem value_skip (t : ByteArray) (k : Nat) (s : JS) : Js.value t k ⟨Js.skip t s.at_, s.op, s.out⟩ = Js.value t k s := by
 cases k with
 | zero => rfl
 | succ k =>
  have : Js.peek t ⟨Js.skip t s.at_, s.op, s.out⟩ = Js.peek t s := by unfold Js.peek; simp only [skip_idem]
  rw [Js.value, Js.value, this]
variable (t : ByteArray) (hs : t.size ≤ 67108864)
def VAL (k : Nat) : Prop := ∀ (s : JS) (p : Int) r, Sok t s → Js.value t k s = some r → ∃ n a' e' p', Ev (fun j => T_value.f j t s.at_ 0 p s.op) (tup n t a' e' p') ∧ VRel t s p n a' e' p' r
def ELE (k : Nat) : Prop := ∀ (s : JS) (p : Int) r (A : Int) (ins : List S67), Sok t s → (ins.length : Int) ≤ s.at_ → Js.elems t k s = some r →
 ∃ n a' e' p', Ev (fun j => T_inside.j2 j s.op 93 (nx t s.at_) t (Js.skip t s.at_) 0 p 2 A 0 ⟨#[]⟩ [] ins) (tup n t a' e' p') ∧ ERel RestA 2 t s p A [] ins n a' e' p' r
def ARR (k : Nat) : Prop := ∀ (s : JS) (p : Int) r, Sok t s → s.at_ < (t.size : Int) → s.op < 200 → Js.array t k s = some r → ∃ n a' e' p', Ev (fun j => T_inside.j0 j (s.op + 1) 93 t s.at_ 0 p 2 s.at_ 0 ⟨#[]⟩) (tup n t a' e' p') ∧ VRel t s p n a' e' p' r
def MEM (k : Nat) : Prop := ∀ (s : JS) (p : Int) r (A : Int) (names ins : List S67), Sok t s → (ins.length : Int) ≤ s.at_ → names.length = ins.length → Js.members t k s = some r →
 ∃ n a' e' p', Ev (fun j => T_inside.j2 j s.op 125 (nx t s.at_) t (Js.skip t s.at_) 0 p 1 A 0 ⟨#[]⟩ names ins) (tup n t a' e' p') ∧ ERel RestO 1 t s p A names ins n a' e' p' r
def OBJ (k : Nat) : Prop := ∀ (s : JS) (p : Int) r, Sok t s → s.at_ < (t.size : Int) → s.op < 200 → Js.object t k s = some r → ∃ n a' e' p', Ev (fun j => T_inside.j0 j (s.op + 1) 125 t s.at_ 0 p 1 s.at_ 0 ⟨#[]⟩) (tup n t a' e' p') ∧ VRel t s p n a' e' p' r
theorem l0_err (x2 x8 : Int) (b : Bool) (a e p kd A E : Int) (tx : ByteArray) (nm ins : List S67) (he : e ≠ 0) : Ev (fun j => T_inside.l0 j x2 x8 b t a e p kd A E tx nm ins) (kd, A, E, tx, nm, ins, t, a, e, p) :=
 Ev.step (fun k => by rw [T_inside.l0]) (Ev.neg he (Ev.now _))
include hs
theorem l0_shut (x2 x8 : Int) (b : Bool) (a p kd A E : Int) (tx : ByteArray) (nm ins : List S67) (h0 : 0 ≤ a) (h1 : a ≤ (t.size : Int)) (hx : nx t a = x8) : Ev (fun j => T_inside.l0 j x2 x8 b t a 0 p kd A E tx nm ins) (kd, A, Js.skip t a + 1, tx, nm, ins, t, Js.skip t a + 1, 0, p) := by
 have g0 := skip_ge h1
 have g1 := skip_le h1
 refine Ev.step (fun k => by rw [T_inside.l0]) (Ev.pos rfl (Ev.bind (next_ev t hs 0 p a h0 h1) (Ev.pos hx ?_)))
 dsimp only
 rw [U.w64 (by omega) (by omega)]
 exact Ev.now _
theorem l0_first (x2 x8 : Int) (a p kd A E : Int) (tx : ByteArray) (nm ins : List S67) (h0 : 0 ≤ a) (h1 : a ≤ (t.size : Int)) (hx : nx t a ≠ x8) {r : Tup} (h : Ev (fun j => T_inside.j2 j x2 x8 (nx t a) t (Js.skip t a) 0 p kd A E tx nm ins) r) : Ev (fun j => T_inside.l0 j x2 x8 true t a 0 p kd A E tx nm ins) r :=
 Ev.step (fun k => by rw [T_inside.l0]) (Ev.pos rfl (Ev.bind (next_ev t hs 0 p a h0 h1) (Ev.neg hx (Ev.pos rfl h))))
theorem l0_more (x2 x8 : Int) (a p kd A E : Int) (tx : ByteArray) (nm ins : List S67) (h0 : 0 ≤ a) (h1 : a ≤ (t.size : Int)) (hx : nx t a = 44) (h8 : x8 ≠ 44) {r : Tup} (h : Ev (fun j => T_inside.j2 j x2 x8 (nx t (Js.skip t a + 1)) t (Js.skip t (Js.skip t a + 1)) 0 p kd A E tx nm ins) r) : Ev (fun j => T_inside.l0 j x2 x8 false t a 0 p kd A E tx nm ins) r := by
 have g0 := skip_ge h1
 have g1 := skip_le h1
 have hl : Js.skip t a < (t.size : Int) := Decidable.byContradiction fun c => by rw [nx_end c] at hx; omega
 have hsg := sign_ev t hs 0 p (Js.skip t a) 44 (by omega) (by omega)
 rw [nx_skip, skip_idem, if_pos ⟨hx, rfl⟩] at hsg
 refine Ev.step (fun k => by rw [T_inside.l0]) ?_
 refine Ev.pos rfl (Ev.bind (next_ev t hs 0 p a h0 h1) ?_)
 refine Ev.neg (show ¬ nx t a = x8 by omega) ?_
 refine Ev.neg (show ¬ false = true by decide) ?_
 refine Ev.bind hsg ?_
 dsimp only
 exact Ev.bind (next_ev t hs 0 p (Js.skip t a + 1) (by omega) (by omega)) h
theorem l0_bad (x2 x8 : Int) (a p kd A E : Int) (tx : ByteArray) (nm ins : List S67) (h0 : 0 ≤ a) (h1 : a ≤ (t.size : Int)) (hx : nx t a ≠ 44) (h8 : nx t a ≠ x8) (hn : nm.length < 1599289640401) :
  ∃ n, Ev (fun j => T_inside.l0 j x2 x8 false t a 0 p kd A E tx nm ins) (tup n t (Js.skip t a) 120 (Js.skip t a)) := by
 have g0 := skip_ge h1
 have g1 := skip_le h1
 have hsg := sign_ev t hs 0 p (Js.skip t a) 44 (by omega) (by omega)
 rw [nx_skip, skip_idem, if_neg (fun g => hx g.1), if_pos rfl, if_pos rfl] at hsg
 have hn2 := next_ev t hs 120 (Js.skip t a) (Js.skip t a) (by omega) (by omega)
 rw [nx_skip, skip_idem] at hn2
 have key : ∃ n, Ev (fun j => T_inside.j2 j x2 x8 (nx t a) t (Js.skip t a) 120 (Js.skip t a) kd A E tx nm ins) (tup n t (Js.skip t a) 120 (Js.skip t a)) := by
  by_cases k1 : kd = 1
  ·by_cases k2 : nx t a = 34
   ·have hnm : Ev (fun j => T_name.f j t (Js.skip t a) 120 (Js.skip t a)) ((0, 0, 0, ⟨#[]⟩, [], [], t, Js.skip t a, 120, Js.skip t a) : Tup) := by
     unfold T_name.f
     exact Ev.neg (by decide) (Ev.now _)
    refine ⟨⟨kd, A, E, tx, nm ++ [⟨0, 0, 0, ⟨#[]⟩, [], []⟩], ins⟩, ?_⟩
    refine Ev.step (fun k => by rw [T_inside.j2]) ?_
    refine Ev.pos k1 (Ev.pos k2 (Ev.bind hnm ?_))
    refine Ev.pos hn ?_
    dsimp only [Option.bind_some]
    refine Ev.neg (show ¬ (120 : Int) = 0 by decide) ?_
    exact l0_err t x2 x8 false _ _ _ kd A E tx _ ins (by decide)
   ·refine ⟨⟨kd, A, E, tx, nm, ins⟩, ?_⟩
    refine Ev.step (fun k => by rw [T_inside.j2]) ?_
    refine Ev.pos k1 (Ev.neg k2 ?_)
    rw [fail_eq, if_neg (by decide), if_neg (by decide)]
    exact Ev.now _
  ·refine ⟨⟨kd, A, E, tx, nm, ins⟩, ?_⟩
   refine Ev.step (fun k => by rw [T_inside.j2]) ?_
   refine Ev.neg k1 ?_
   refine Ev.neg (show ¬ (120 : Int) = 0 by decide) ?_
   exact l0_err t x2 x8 false _ _ _ kd A E tx nm ins (by decide)
 obtain ⟨n, hk⟩ := key
 refine ⟨n, ?_⟩
 refine Ev.step (fun k => by rw [T_inside.l0]) ?_
 refine Ev.pos rfl (Ev.bind (next_ev t hs 0 p a h0 h1) ?_)
 refine Ev.neg h8 ?_
 refine Ev.neg (show ¬ false = true by decide) ?_
 refine Ev.bind hsg ?_
 exact Ev.bind hn2 hk
theorem elems_step (k : Nat) (hV : VAL t k) (hE : ELE t k) : ELE t (k + 1) := by
 intro s p r A ins hok hl h
 have q0 := skip_ge hok.a1
 have q1 := skip_le hok.a1
 have o0 := hok.o0
 have o1 := hok.o1
 have a0 := hok.a0
 rw [Js.elems] at h
 cases hv : Js.value t k s with
 | none => rw [hv] at h; cases h
 | some rv =>
  rw [hv] at h
  have hv' := hv
  rw [← value_skip] at hv'
  obtain ⟨n1, a1, e1, p1, hev, hrel⟩ := hV ⟨Js.skip t s.at_, s.op, s.out⟩ p rv ⟨by dsimp only; omega, q1, o0, o1⟩ hv'
  dsimp only at hev
  have st : ∀ {r : Tup}, Ev (fun j => T_inside.l0 j s.op 93 false t a1 e1 p1 2 A 0 ⟨#[]⟩ [] (ins ++ [n1])) r → Ev (fun j => T_inside.j2 j s.op 93 (nx t s.at_) t (Js.skip t s.at_) 0 p 2 A 0 ⟨#[]⟩ [] ins) r := by
   intro r hr
   refine Ev.step (fun k => by rw [T_inside.j2]) ?_
   refine Ev.neg (show ¬ (2 : Int) = 1 by decide) ?_
   refine Ev.pos rfl (Ev.bind hev ?_)
   dsimp only [tup]
   rw [eta67]
   exact Ev.pos (by omega) hr
  rcases rv with x | s1
  ·obtain rfl := Option.some.inj h
   obtain ⟨rfl, rfl, hx⟩ := hrel
   exact ⟨⟨2, A, 0, ⟨#[]⟩, [], ins ++ [n1]⟩, a1, x.1, x.2, st (l0_err t _ _ _ _ _ _ 2 A 0 ⟨#[]⟩ [] _ hx), rfl, rfl, hx⟩
  ·obtain ⟨rfl, rfl, rfl, hop, hlt, hle, X, hout, hXs, hX0, hT⟩ := hrel
   dsimp only at h hop hlt hout hXs
   have b0 := skip_ge hle
   have b1 := skip_le hle
   rw [sign_eq _ hle] at h
   have inA : Js.skip t s1.at_ < (t.size : Int) → (Js.isIn ⟨#[44, 93]⟩ (nx t s1.at_) = true ↔ (nx t s1.at_ = 44 ∨ nx t s1.at_ = 93)) := fun g => by rw [nx_at g]; exact isInA t _
   by_cases c93 : nx t s1.at_ = 93
   ·have hl93 : Js.skip t s1.at_ < (t.size : Int) := Decidable.byContradiction fun c => by rw [nx_end c] at c93; omega
    rw [if_pos ⟨hl93, (inA hl93).2 (Or.inr c93)⟩] at h
    dsimp only at h
    rw [if_neg (by omega)] at h
    obtain rfl := Option.some.inj h
    refine ⟨⟨2, A, Js.skip t s1.at_ + 1, ⟨#[]⟩, [], ins ++ [n1]⟩, _, _, _, st (l0_shut t hs _ _ _ _ _ 2 A 0 ⟨#[]⟩ [] _ (by omega) hle c93), ?_⟩
    refine ⟨rfl, rfl, rfl, by show s1.op - 1 = _; omega, by show _ < Js.skip t s1.at_ + 1; omega, by show Js.skip t s1.at_ + 1 ≤ _; omega, rfl, rfl, rfl, ⟨n1, [], rfl⟩, ⟨[], rfl⟩, fun _ h => absurd h (by decide), X ++ t.extract (Js.skip t s1.at_).toNat (Js.skip t s1.at_ + 1).toNat, ?_, ?_, ?_, ?_⟩
    ·show s1.out ++ _ = _
     rw [hout, ByteArray.append_assoc]
    ·show ((X ++ _ : ByteArray).size : Int) ≤ Js.skip t s1.at_ + 1 - _
     rw [ByteArray.size_append, size_extract _ _ _ (by omega)]
     omega
    ·rw [ByteArray.size_append]; omega
    ·refine RestA.last hs (E := Js.skip t s1.at_) (by simp) rfl (by omega) hl93 (bytesOf_one t _ (by omega) hl93) ?_
     have := getD_mid ins [] n1 z67
     rw [List.append_nil] at this
     rw [this]; exact hT
   ·by_cases c44 : nx t s1.at_ = 44
    ·have hl44 : Js.skip t s1.at_ < (t.size : Int) := Decidable.byContradiction fun c => by rw [nx_end c] at c44; omega
     rw [if_pos ⟨hl44, (inA hl44).2 (Or.inl c44)⟩] at h
     dsimp only at h
     rw [if_pos c44] at h
     obtain ⟨n, a', e', p', hev2, hrel2⟩ := hE ⟨Js.skip t s1.at_ + 1, s1.op, s1.out ++ t.extract (Js.skip t s1.at_).toNat (Js.skip t s1.at_ + 1).toNat⟩ p1 r A (ins ++ [n1]) ⟨by dsimp only; omega, by dsimp only; omega, by dsimp only; omega, by dsimp only; omega⟩ (by simp; omega) h
     dsimp only at hev2
     rw [hop] at hev2
     refine ⟨n, a', e', p', st (l0_more t hs _ _ _ _ 2 A 0 ⟨#[]⟩ [] _ (by omega) hle c44 (by decide) hev2), ?_⟩
     rcases r with x | s'
     ·exact hrel2
     ·obtain ⟨r1, r2, r3, r4, r5, r6, r7, r8, r9, ⟨y, more, r10⟩, r11, r12, Y, ho2, hY, hY0, hR⟩ := hrel2
      dsimp only at r4 r5 ho2 hY
      have hzS := size_extract t (Js.skip t s1.at_).toNat (Js.skip t s1.at_ + 1).toNat (by omega)
      refine ⟨r1, r2, r3, by omega, by omega, r6, r7, r8, r9, ⟨n1, y :: more, by rw [r10]; simp⟩, r11, fun _ h => absurd h (by decide), X ++ t.extract (Js.skip t s1.at_).toNat (Js.skip t s1.at_ + 1).toNat ++ Y, ?_, ?_, ?_, ?_⟩
      ·rw [ho2, hout]; simp only [ByteArray.append_assoc]
      ·simp only [ByteArray.size_append]; omega
      ·simp only [ByteArray.size_append]; omega
      ·refine RestA.more r7 (by rw [r10]; simp) (by rw [bytesOf_one t _ (by omega) hl44, ← nx_at hl44, c44]) ?_ ?_
       ·rw [r10, getD_mid]; exact hT
       ·simpa using hR
    ·rw [if_neg (fun g => ((inA g.1).1 g.2).elim c44 c93)] at h
     obtain rfl := Option.some.inj h
     obtain ⟨n, hb⟩ := l0_bad t hs s.op 93 s1.at_ p1 2 A 0 ⟨#[]⟩ [] (ins ++ [n1]) (by omega) hle c44 c93 (by decide)
     exact ⟨n, _, _, _, st hb, rfl, rfl, show (120 : Int) ≠ 0 by decide⟩
end Cpl
end Go.Proofs.YtbpiahpkbapijaaDoor.J
end
section
namespace Go.Proofs.YtbpiahpkbapijaaDoor.J
open Go.RowKit Go.Proofs.YtbpiahpkbapijaaDoorW.PrintWords Go.Proofs.YtbpiahpkbapijaaDoorW.PrintLast Go.Proofs.YtbpiahpkbapijaaDoorW.PrintMore
set_option linter.unusedVariables false
set_option linter.unusedSimpArgs false
open Go.Proofs.YtbpiahpkbapijaaDoor.U
namespace Cpl
theorem tk_eq (t : ByteArray) (s : JS) (b : Int) : Js.tk t (b - s.at_) s = ⟨b, s.op, s.out ++ t.extract s.at_.toNat b.toNat⟩ := by
 unfold Js.tk
 rw [show s.at_ + (b - s.at_) = b by omega]
variable (t : ByteArray) (hs : t.size ≤ 67108864)
include hs
theorem val_num (a p op : Int) (h0 : 0 ≤ a) (h1 : a ≤ (t.size : Int)) (c1 : nx t a ≠ 123) (c2 : nx t a ≠ 91) (c3 : nx t a ≠ 34) (c4 : nx t a ≠ 116) (c5 : nx t a ≠ 102) (c6 : nx t a ≠ 110) :
  Ev (fun j => T_value.f j t a 0 p op) (if numD t (Js.skip t a) = Js.skip t a then ((4, Js.skip t a, numD t (Js.skip t a), ⟨#[]⟩, [], [], t, Js.skip t a, 120, Js.skip t a) : Tup) else (4, Js.skip t a, numD t (Js.skip t a), t.extract (Js.skip t a).toNat (numD t (Js.skip t a)).toNat, [], [], t, numD t (Js.skip t a), 0, p)) := by
 have g0 := skip_ge h1
 have g1 := skip_le h1
 refine Ev.step (fun k => by rw [T_value.f]) ?_
 refine Ev.bind (next_ev t hs 0 p a h0 h1) ?_
 refine Ev.neg c1 (Ev.neg c2 (Ev.neg c3 (Ev.neg c4 (Ev.neg c5 (Ev.neg c6 ?_)))))
 refine Ev.bind (number_ev t hs (Js.skip t a) 0 p (Js.skip t a) (by omega) g1) ?_
 dsimp only
 by_cases c : numD t (Js.skip t a) = Js.skip t a
 ·refine Ev.pos c ?_
  rw [fail0, if_pos c]
  exact Ev.now _
 ·have hr : Js.run t (Js.numA t (Js.skip t a)) ≠ Js.numA t (Js.skip t a) := fun e => c (if_pos e)
  have hd := numD_in t g1 hr
  refine Ev.neg c (Ev.pos (by omega) (Ev.pos (by omega) (Ev.pos (by omega) ?_)))
  rw [if_neg c]
  exact Ev.now _
theorem arr_step (k : Nat) (hE : ELE t k) : ARR t (k + 1) := by
 intro s p r hok hlt hop h
 have o0 := hok.o0
 have a0 := hok.a0
 rw [Js.array] at h
 unfold Js.bracket at h
 rw [if_neg (by omega)] at h
 dsimp only at h
 rw [peek_eq (by show s.at_ + 1 ≤ _; omega)] at h
 have q0 := skip_ge (t := t) (a := s.at_ + 1) (by omega)
 have q1 := skip_le (t := t) (a := s.at_ + 1) (by omega)
 have eo : (Js.tk t 1 ⟨s.at_, s.op + 1, s.out⟩) = ⟨s.at_ + 1, s.op + 1, s.out ++ t.extract s.at_.toNat (s.at_ + 1).toNat⟩ := rfl
 rw [eo] at h
 dsimp only at h
 have st : ∀ {r : Tup}, Ev (fun j => T_inside.l0 j (s.op + 1) 93 true t (s.at_ + 1) 0 p 2 s.at_ 0 ⟨#[]⟩ [] []) r → Ev (fun j => T_inside.j0 j (s.op + 1) 93 t s.at_ 0 p 2 s.at_ 0 ⟨#[]⟩) r := by
  intro r hr
  refine Ev.step (fun k => by rw [T_inside.j0]) ?_
  rw [U.w64 (n := s.at_ + 1) (by omega) (by omega)]
  exact hr
 by_cases c : Js.skip t (s.at_ + 1) < (t.size : Int)
 ·rw [if_pos c] at h
  dsimp only at h
  by_cases c93 : nx t (s.at_ + 1) = 93
  ·rw [if_pos c93] at h
   obtain rfl := Option.some.inj h
   refine ⟨⟨2, s.at_, Js.skip t (s.at_ + 1) + 1, ⟨#[]⟩, [], []⟩, _, _, _, st (l0_shut t hs _ _ _ _ _ 2 _ 0 ⟨#[]⟩ [] [] (by omega) (by omega) c93), ?_⟩
   have z1 := size_extract t s.at_.toNat (s.at_ + 1).toNat (by omega)
   have z2 := size_extract t (Js.skip t (s.at_ + 1)).toNat (Js.skip t (s.at_ + 1) + 1).toNat (by omega)
   refine ⟨rfl, rfl, rfl, by show s.op + 1 - 1 = _; omega, by show _ < Js.skip t (s.at_ + 1) + 1; omega, by show Js.skip t (s.at_ + 1) + 1 ≤ _; omega, t.extract s.at_.toNat (s.at_ + 1).toNat ++ t.extract (Js.skip t (s.at_ + 1)).toNat (Js.skip t (s.at_ + 1) + 1).toNat, ?_, ?_, ?_, ?_⟩
   ·show (s.out ++ _) ++ _ = _
    rw [ByteArray.append_assoc]
   ·show ((_ ++ _ : ByteArray).size : Int) ≤ Js.skip t (s.at_ + 1) + 1 - _
    rw [ByteArray.size_append]; omega
   ·rw [ByteArray.size_append]; omega
   ·exact TI.empty hs (E := Js.skip t (s.at_ + 1)) (Or.inr rfl) rfl a0 hlt (bytesOf_one t _ a0 hlt) rfl (by omega) c (bytesOf_one t _ (by omega) c)
  ·rw [if_neg c93] at h
   obtain ⟨n, a', e', p', hev, hrel⟩ := hE ⟨Js.skip t (s.at_ + 1), s.op + 1, s.out ++ t.extract s.at_.toNat (s.at_ + 1).toNat⟩ p r s.at_ [] ⟨by dsimp only; omega, by dsimp only; omega, by dsimp only; omega, by dsimp only; omega⟩ (by simp; omega) h
   dsimp only at hev
   rw [nx_skip, skip_idem] at hev
   refine ⟨n, a', e', p', st (l0_first t hs _ _ _ _ 2 _ 0 ⟨#[]⟩ [] [] (by omega) (by omega) c93 hev), ?_⟩
   rcases r with x | s'
   ·exact hrel
   ·obtain ⟨r1, r2, r3, r4, r5, r6, r7, r8, r9, ⟨y, more, r10⟩, r11, r12, Y, ho2, hY, hY0, hR⟩ := hrel
    dsimp only at r4 r5 ho2 hY
    have z1 := size_extract t s.at_.toNat (s.at_ + 1).toNat (by omega)
    refine ⟨r1, r2, r3, by omega, by omega, r6, t.extract s.at_.toNat (s.at_ + 1).toNat ++ Y, ?_, ?_, ?_, ?_⟩
    ·rw [ho2, ByteArray.append_assoc]
    ·rw [ByteArray.size_append]; omega
    ·rw [ByteArray.size_append]; omega
    ·exact RestA.open_ r7 (by rw [r10]; simp) (by rw [r8]; exact a0) (by rw [r8]; exact hlt) (by rw [r8]; exact bytesOf_one t _ a0 hlt) hR
 ·rw [if_neg c] at h
  obtain rfl := Option.some.inj h
  have en := nx_end c
  have hN := val_num t hs (Js.skip t (s.at_ + 1)) p (s.op + 1) (by omega) q1 (by rw [nx_skip, en]; decide) (by rw [nx_skip, en]; decide) (by rw [nx_skip, en]; decide) (by rw [nx_skip, en]; decide) (by rw [nx_skip, en]; decide) (by rw [nx_skip, en]; decide)
  rw [skip_idem] at hN
  have eD : numD t (Js.skip t (s.at_ + 1)) = Js.skip t (s.at_ + 1) := by
   refine if_pos ?_
   have eA : Js.numA t (Js.skip t (s.at_ + 1)) = Js.skip t (s.at_ + 1) := if_neg (by unfold Js.is_; rw [decide_eq_false c, Bool.false_and]; decide)
   rw [eA, Js.run_eq, if_neg c]
  rw [if_pos eD] at hN
  refine ⟨⟨2, s.at_, 0, ⟨#[]⟩, [], [⟨4, Js.skip t (s.at_ + 1), numD t (Js.skip t (s.at_ + 1)), ⟨#[]⟩, [], []⟩]⟩, Js.skip t (s.at_ + 1), 120, Js.skip t (s.at_ + 1), st (l0_first t hs _ _ _ _ 2 _ 0 ⟨#[]⟩ [] [] (by omega) (by omega) (by rw [en]; decide) ?_), rfl, rfl, show (120 : Int) ≠ 0 by decide⟩
  refine Ev.step (fun k => by rw [T_inside.j2]) ?_
  refine Ev.neg (show ¬ (2 : Int) = 1 by decide) ?_
  refine Ev.pos rfl (Ev.bind hN ?_)
  dsimp only
  refine Ev.pos (by decide) ?_
  exact l0_err t _ _ _ _ _ _ 2 _ 0 ⟨#[]⟩ [] _ (by decide)
theorem obj_step (k : Nat) (hM : MEM t k) : OBJ t (k + 1) := by
 intro s p r hok hlt hop h
 have o0 := hok.o0
 have a0 := hok.a0
 rw [Js.object] at h
 unfold Js.bracket at h
 rw [if_neg (by omega)] at h
 dsimp only at h
 rw [peek_eq (by show s.at_ + 1 ≤ _; omega)] at h
 have q0 := skip_ge (t := t) (a := s.at_ + 1) (by omega)
 have q1 := skip_le (t := t) (a := s.at_ + 1) (by omega)
 have eo : (Js.tk t 1 ⟨s.at_, s.op + 1, s.out⟩) = ⟨s.at_ + 1, s.op + 1, s.out ++ t.extract s.at_.toNat (s.at_ + 1).toNat⟩ := rfl
 rw [eo] at h
 dsimp only at h
 have st : ∀ {r : Tup}, Ev (fun j => T_inside.l0 j (s.op + 1) 125 true t (s.at_ + 1) 0 p 1 s.at_ 0 ⟨#[]⟩ [] []) r → Ev (fun j => T_inside.j0 j (s.op + 1) 125 t s.at_ 0 p 1 s.at_ 0 ⟨#[]⟩) r := by
  intro r hr
  refine Ev.step (fun k => by rw [T_inside.j0]) ?_
  rw [U.w64 (n := s.at_ + 1) (by omega) (by omega)]
  exact hr
 by_cases c : Js.skip t (s.at_ + 1) < (t.size : Int)
 ·rw [if_pos c] at h
  dsimp only at h
  by_cases c93 : nx t (s.at_ + 1) = 125
  ·rw [if_pos c93] at h
   obtain rfl := Option.some.inj h
   refine ⟨⟨1, s.at_, Js.skip t (s.at_ + 1) + 1, ⟨#[]⟩, [], []⟩, _, _, _, st (l0_shut t hs _ _ _ _ _ 1 _ 0 ⟨#[]⟩ [] [] (by omega) (by omega) c93), ?_⟩
   have z1 := size_extract t s.at_.toNat (s.at_ + 1).toNat (by omega)
   have z2 := size_extract t (Js.skip t (s.at_ + 1)).toNat (Js.skip t (s.at_ + 1) + 1).toNat (by omega)
   refine ⟨rfl, rfl, rfl, by show s.op + 1 - 1 = _; omega, by show _ < Js.skip t (s.at_ + 1) + 1; omega, by show Js.skip t (s.at_ + 1) + 1 ≤ _; omega, t.extract s.at_.toNat (s.at_ + 1).toNat ++ t.extract (Js.skip t (s.at_ + 1)).toNat (Js.skip t (s.at_ + 1) + 1).toNat, ?_, ?_, ?_, ?_⟩
   ·show (s.out ++ _) ++ _ = _
    rw [ByteArray.append_assoc]
   ·show ((_ ++ _ : ByteArray).size : Int) ≤ Js.skip t (s.at_ + 1) + 1 - _
    rw [ByteArray.size_append]; omega
   ·rw [ByteArray.size_append]; omega
   ·exact TI.empty hs (E := Js.skip t (s.at_ + 1)) (Or.inl rfl) rfl a0 hlt (bytesOf_one t _ a0 hlt) rfl (by omega) c (bytesOf_one t _ (by omega) c)
  ·rw [if_neg c93] at h
   obtain ⟨n, a', e', p', hev, hrel⟩ := hM ⟨Js.skip t (s.at_ + 1), s.op + 1, s.out ++ t.extract s.at_.toNat (s.at_ + 1).toNat⟩ p r s.at_ [] [] ⟨by dsimp only; omega, by dsimp only; omega, by dsimp only; omega, by dsimp only; omega⟩ (by simp; omega) rfl h
   dsimp only at hev
   rw [nx_skip, skip_idem] at hev
   refine ⟨n, a', e', p', st (l0_first t hs _ _ _ _ 1 _ 0 ⟨#[]⟩ [] [] (by omega) (by omega) c93 hev), ?_⟩
   rcases r with x | s'
   ·exact hrel
   ·obtain ⟨r1, r2, r3, r4, r5, r6, r7, r8, r9, ⟨y, more, r10⟩, r11, r12, Y, ho2, hY, hY0, hR⟩ := hrel
    dsimp only at r4 r5 ho2 hY
    have z1 := size_extract t s.at_.toNat (s.at_ + 1).toNat (by omega)
    refine ⟨r1, r2, r3, by omega, by omega, r6, t.extract s.at_.toNat (s.at_ + 1).toNat ++ Y, ?_, ?_, ?_, ?_⟩
    ·rw [ho2, ByteArray.append_assoc]
    ·rw [ByteArray.size_append]; omega
    ·rw [ByteArray.size_append]; omega
    ·exact RestO.open_ r7 (r12 rfl rfl) (by rw [r10]; simp) (by rw [r8]; exact a0) (by rw [r8]; exact hlt) (by rw [r8]; exact bytesOf_one t _ a0 hlt) hR
 ·rw [if_neg c] at h
  obtain rfl := Option.some.inj h
  have en := nx_end c
  refine ⟨⟨1, s.at_, 0, ⟨#[]⟩, [], []⟩, Js.skip t (s.at_ + 1), 120, Js.skip t (s.at_ + 1), st (l0_first t hs _ _ _ _ 1 _ 0 ⟨#[]⟩ [] [] (by omega) (by omega) (by rw [en]; decide) ?_), rfl, rfl, show (120 : Int) ≠ 0 by decide⟩
  refine Ev.step (fun k => by rw [T_inside.j2]) ?_
  refine Ev.pos rfl (Ev.neg (by rw [en]; decide) ?_)
  rw [fail0]
  exact Ev.now _
end Cpl
end Go.Proofs.YtbpiahpkbapijaaDoor.J
end
section
namespace Go.Proofs.YtbpiahpkbapijaaDoor.J
open Go.RowKit Go.Proofs.YtbpiahpkbapijaaDoorW.PrintWords Go.Proofs.YtbpiahpkbapijaaDoorW.PrintLast Go.Proofs.YtbpiahpkbapijaaDoorW.PrintMore
set_option linter.unusedVariables false
set_option linter.unusedSimpArgs false
open Go.Proofs.YtbpiahpkbapijaaDoor.U
namespace Cpl
variable (t : ByteArray) (hs : t.size ≤ 67108864)
include hs
theorem mem_step (k : Nat) (hV : VAL t k) (hM : MEM t k) : MEM t (k + 1) := by
 intro s p r A names ins hok hl hnl h
 have q0 := skip_ge hok.a1
 have q1 := skip_le hok.a1
 have o0 := hok.o0
 have o1 := hok.o1
 have a0 := hok.a0
 rw [Js.members, peek_eq hok.a1] at h
 have bad : nx t s.at_ ≠ 34 → ∃ n, Ev (fun j => T_inside.j2 j s.op 125 (nx t s.at_) t (Js.skip t s.at_) 0 p 1 A 0 ⟨#[]⟩ names ins) (tup n t (Js.skip t s.at_) 120 (Js.skip t s.at_)) := by
  intro g
  refine ⟨⟨1, A, 0, ⟨#[]⟩, names, ins⟩, ?_⟩
  refine Ev.step (fun k => by rw [T_inside.j2]) ?_
  refine Ev.pos rfl (Ev.neg g ?_)
  rw [fail0]
  exact Ev.now _
 by_cases c : Js.skip t s.at_ < (t.size : Int)
 ·rw [if_pos c] at h
  dsimp only at h
  by_cases c34 : nx t s.at_ = 34
  ·rw [if_pos c34] at h
   obtain ⟨x, htx⟩ := text_ev t hs (Js.skip t s.at_) p (by omega) c
   obtain ⟨q, hq⟩ : ∃ q, q = Js.strN t t.size (Js.skip t s.at_ + 1) := ⟨_, rfl⟩
   have hqi := strN_in t t.size (Js.skip t s.at_ + 1) (by omega)
   unfold Js.quoted at h
   dsimp only at h
   rw [← hq] at h htx hqi
   have stn : ∀ {m : Tup} {r : Tup}, Ev (fun j => T_name.f j t (Js.skip t s.at_) 0 p) m → Ev (fun j => if m.2.2.2.2.2.2.2.2.1 = 0 then ((T_value.f j m.2.2.2.2.2.2.1 m.2.2.2.2.2.2.2.1 m.2.2.2.2.2.2.2.2.1 m.2.2.2.2.2.2.2.2.2 s.op).bind fun bt203 => (if ins.length < 1599289640401 then (T_inside.l0 j s.op 125 false bt203.2.2.2.2.2.2.1 bt203.2.2.2.2.2.2.2.1 bt203.2.2.2.2.2.2.2.2.1 bt203.2.2.2.2.2.2.2.2.2 1 A 0 ⟨#[]⟩ (names ++ [⟨m.1, m.2.1, m.2.2.1, m.2.2.2.1, m.2.2.2.2.1, m.2.2.2.2.2.1⟩]) (ins ++ [(⟨bt203.1, bt203.2.1, bt203.2.2.1, bt203.2.2.2.1, bt203.2.2.2.2.1, bt203.2.2.2.2.2.1⟩ : S67)])) else (none))) else (T_inside.l0 j s.op 125 false m.2.2.2.2.2.2.1 m.2.2.2.2.2.2.2.1 m.2.2.2.2.2.2.2.2.1 m.2.2.2.2.2.2.2.2.2 1 A 0 ⟨#[]⟩ (names ++ [⟨m.1, m.2.1, m.2.2.1, m.2.2.2.1, m.2.2.2.2.1, m.2.2.2.2.2.1⟩]) ins)) r →
     Ev (fun j => T_inside.j2 j s.op 125 (nx t s.at_) t (Js.skip t s.at_) 0 p 1 A 0 ⟨#[]⟩ names ins) r := by
    intro m r hm hr
    refine Ev.step (fun k => by rw [T_inside.j2]) ?_
    refine Ev.pos rfl (Ev.pos c34 (Ev.bind hm ?_))
    refine Ev.pos (by omega) ?_
    exact hr
   by_cases z : q < 0
   ·rw [if_pos z] at h
    obtain rfl := Option.some.inj h
    have hm : Ev (fun j => T_name.f j t (Js.skip t s.at_) 0 p) ((3, Js.skip t s.at_, 0, ⟨#[]⟩, [], [], t, Js.skip t s.at_, 125, Js.skip t s.at_) : Tup) := by
     unfold T_name.f
     refine Ev.pos rfl (Ev.bind htx ?_)
     unfold TX
     rw [if_pos z]
     exact Ev.neg (show ¬ (125 : Int) = 0 by decide) (Ev.now _)
    refine ⟨⟨1, A, 0, ⟨#[]⟩, names ++ [⟨3, Js.skip t s.at_, 0, ⟨#[]⟩, [], []⟩], ins⟩, Js.skip t s.at_, 125, Js.skip t s.at_, stn hm ?_, rfl, rfl, show (125 : Int) ≠ 0 by decide⟩
    dsimp only
    exact Ev.neg (show ¬ (125 : Int) = 0 by decide) (l0_err t _ _ _ _ _ _ 1 A 0 ⟨#[]⟩ _ ins (by decide))
   ·rw [if_neg z, show q + 1 - Js.skip t s.at_ = (q + 1) - (⟨Js.skip t s.at_, s.op, s.out⟩ : JS).at_ by rfl, tk_eq] at h
    dsimp only at h
    rw [sign_eq _ (by show q + 1 ≤ _; omega)] at h
    dsimp only at h
    have htx2 : Ev (fun j => T_text.f j t (Js.skip t s.at_) 0 p) ((3, Js.skip t s.at_, q + 1, x, [], [], t, q + 1, 0, p) : Tup) := by
     unfold TX at htx; rwa [if_neg z] at htx
    have hsg := sign_ev t hs 0 p (q + 1) 58 (by omega) (by omega)
    have b0 := skip_ge (t := t) (a := q + 1) (by omega)
    have b1 := skip_le (t := t) (a := q + 1) (by omega)
    have inC : Js.skip t (q + 1) < (t.size : Int) → (Js.isIn ⟨#[58]⟩ (nx t (q + 1)) = true ↔ nx t (q + 1) = 58) := fun g => by rw [nx_at g]; exact isIn1 58 (Or.inr (Or.inr rfl)) t _
    by_cases c58 : nx t (q + 1) = 58
    ·have hl58 : Js.skip t (q + 1) < (t.size : Int) := Decidable.byContradiction fun g => by rw [nx_end g] at c58; omega
     rw [if_pos ⟨hl58, (inC hl58).2 c58⟩] at h
     dsimp only at h
     rw [if_pos ⟨c58, rfl⟩] at hsg
     have hm : Ev (fun j => T_name.f j t (Js.skip t s.at_) 0 p) ((3, Js.skip t s.at_, q + 1, x, [], [], t, Js.skip t (q + 1) + 1, 0, p) : Tup) := by
      unfold T_name.f
      refine Ev.pos rfl (Ev.bind htx2 ?_)
      dsimp only
      exact Ev.pos rfl (Ev.bind hsg (Ev.now _))
     obtain ⟨s3, hs3⟩ : ∃ s3 : JS, s3 = ⟨Js.skip t (q + 1) + 1, s.op, s.out ++ t.extract (Js.skip t s.at_).toNat (q + 1).toNat ++ t.extract (Js.skip t (q + 1)).toNat (Js.skip t (q + 1) + 1).toNat⟩ := ⟨_, rfl⟩
     rw [← hs3] at h
     have e3a : s3.at_ = Js.skip t (q + 1) + 1 := by rw [hs3]
     have e3o : s3.op = s.op := by rw [hs3]
     have e3t : s3.out = s.out ++ t.extract (Js.skip t s.at_).toNat (q + 1).toNat ++ t.extract (Js.skip t (q + 1)).toNat (Js.skip t (q + 1) + 1).toNat := by rw [hs3]
     cases hv : Js.value t k s3 with
     | none => rw [hv] at h; cases h
     | some rv =>
      rw [hv] at h
      obtain ⟨n1, a1, e1, p1, hev, hrel⟩ := hV s3 p rv ⟨by omega, by omega, by omega, by omega⟩ hv
      rw [e3a, e3o] at hev
      have st : ∀ {r : Tup}, Ev (fun j => T_inside.l0 j s.op 125 false t a1 e1 p1 1 A 0 ⟨#[]⟩ (names ++ [⟨3, Js.skip t s.at_, q + 1, x, [], []⟩]) (ins ++ [n1])) r → Ev (fun j => T_inside.j2 j s.op 125 (nx t s.at_) t (Js.skip t s.at_) 0 p 1 A 0 ⟨#[]⟩ names ins) r := by
       intro r hr
       refine stn hm ?_
       dsimp only
       refine Ev.pos rfl (Ev.bind hev ?_)
       dsimp only [tup]
       rw [eta67]
       exact Ev.pos (by omega) hr
      rcases rv with y | s1
      ·obtain rfl := Option.some.inj h
       obtain ⟨rfl, rfl, hx⟩ := hrel
       exact ⟨⟨1, A, 0, ⟨#[]⟩, names ++ [⟨3, Js.skip t s.at_, q + 1, x, [], []⟩], ins ++ [n1]⟩, a1, y.1, y.2, st (l0_err t _ _ _ _ _ _ 1 A 0 ⟨#[]⟩ _ _ hx), rfl, rfl, hx⟩
      ·obtain ⟨rfl, rfl, rfl, hop, hlt, hle, X, hout, hXs, hX0, hT⟩ := hrel
       dsimp only at h
       rw [e3a] at hlt hXs
       rw [e3o] at hop
       rw [e3t] at hout
       have d0 := skip_ge hle
       have d1 := skip_le hle
       rw [sign_eq _ hle] at h
       have inO : Js.skip t s1.at_ < (t.size : Int) → (Js.isIn ⟨#[44, 125]⟩ (nx t s1.at_) = true ↔ (nx t s1.at_ = 44 ∨ nx t s1.at_ = 125)) := fun g => by rw [nx_at g]; exact isInO t _
       have zQ := size_extract t (Js.skip t s.at_).toNat (q + 1).toNat (by omega)
       have zC := size_extract t (Js.skip t (q + 1)).toNat (Js.skip t (q + 1) + 1).toNat (by omega)
       have bC : bytesOf (t.extract (Js.skip t (q + 1)).toNat (Js.skip t (q + 1) + 1).toNat) = [58] := by rw [bytesOf_one t _ (by omega) hl58, ← nx_at hl58, c58]
       by_cases c93 : nx t s1.at_ = 125
       ·have hl93 : Js.skip t s1.at_ < (t.size : Int) := Decidable.byContradiction fun g => by rw [nx_end g] at c93; omega
        rw [if_pos ⟨hl93, (inO hl93).2 (Or.inr c93)⟩] at h
        dsimp only at h
        rw [if_neg (by omega)] at h
        obtain rfl := Option.some.inj h
        have zS := size_extract t (Js.skip t s1.at_).toNat (Js.skip t s1.at_ + 1).toNat (by omega)
        refine ⟨⟨1, A, Js.skip t s1.at_ + 1, ⟨#[]⟩, names ++ [⟨3, Js.skip t s.at_, q + 1, x, [], []⟩], ins ++ [n1]⟩, _, _, _, st (l0_shut t hs _ _ _ _ _ 1 A 0 ⟨#[]⟩ _ _ (by omega) hle c93), ?_⟩
        refine ⟨rfl, rfl, rfl, by show s1.op - 1 = _; omega, by show _ < Js.skip t s1.at_ + 1; omega, by show Js.skip t s1.at_ + 1 ≤ _; omega, rfl, rfl, rfl, ⟨n1, [], rfl⟩, ⟨_, rfl⟩, fun g _ => by simp [g], t.extract (Js.skip t s.at_).toNat (q + 1).toNat ++ t.extract (Js.skip t (q + 1)).toNat (Js.skip t (q + 1) + 1).toNat ++ X ++ t.extract (Js.skip t s1.at_).toNat (Js.skip t s1.at_ + 1).toNat, ?_, ?_, ?_, ?_⟩
        ·show s1.out ++ _ = _
         rw [hout]; simp only [ByteArray.append_assoc]
        ·show ((_ ++ _ : ByteArray).size : Int) ≤ Js.skip t s1.at_ + 1 - _
         simp only [ByteArray.size_append]
         omega
        ·simp only [ByteArray.size_append]; omega
        ·have e4 : (names ++ [(⟨3, Js.skip t s.at_, q + 1, x, [], []⟩ : S67)]).getD ins.length z67 = ⟨3, Js.skip t s.at_, q + 1, x, [], []⟩ := by
          have := getD_mid names [] (⟨3, Js.skip t s.at_, q + 1, x, [], []⟩ : S67) z67
          rw [List.append_nil, hnl] at this; exact this
         have e5 : (ins ++ [n1]).getD ins.length z67 = n1 := by
          have := getD_mid ins [] n1 z67
          rw [List.append_nil] at this; exact this
         have := RestO.last (t := t) (n := ⟨1, A, Js.skip t s1.at_ + 1, ⟨#[]⟩, names ++ [⟨3, Js.skip t s.at_, q + 1, x, [], []⟩], ins ++ [n1]⟩) (i := ins.length) (C := t.extract (Js.skip t (q + 1)).toNat (Js.skip t (q + 1) + 1).toNat) (X := X) (Y := t.extract (Js.skip t s1.at_).toNat (Js.skip t s1.at_ + 1).toNat) hs (E := Js.skip t s1.at_) (by simp) rfl (by omega) hl93 (bytesOf_one t _ (by omega) hl93) (by dsimp only; rw [e5]; exact hT) (by dsimp only; rw [e4]; dsimp only; omega) (by dsimp only; rw [e4]; dsimp only; omega) (by dsimp only; rw [e4]; dsimp only; omega) bC
         dsimp only at this
         rw [e4] at this
         exact this
       ·by_cases c44 : nx t s1.at_ = 44
        ·have hl44 : Js.skip t s1.at_ < (t.size : Int) := Decidable.byContradiction fun g => by rw [nx_end g] at c44; omega
         rw [if_pos ⟨hl44, (inO hl44).2 (Or.inl c44)⟩] at h
         dsimp only at h
         rw [if_pos c44] at h
         obtain ⟨n, a', e', p', hev2, hrel2⟩ := hM ⟨Js.skip t s1.at_ + 1, s1.op, s1.out ++ t.extract (Js.skip t s1.at_).toNat (Js.skip t s1.at_ + 1).toNat⟩ p1 r A (names ++ [⟨3, Js.skip t s.at_, q + 1, x, [], []⟩]) (ins ++ [n1]) ⟨by dsimp only; omega, by dsimp only; omega, by dsimp only; omega, by dsimp only; omega⟩ (by simp; omega) (by simp [hnl]) h
         dsimp only at hev2
         rw [hop] at hev2
         refine ⟨n, a', e', p', st (l0_more t hs _ _ _ _ 1 A 0 ⟨#[]⟩ _ _ (by omega) hle c44 (by decide) hev2), ?_⟩
         rcases r with y | s'
         ·exact hrel2
         ·obtain ⟨r1, r2, r3, r4, r5, r6, r7, r8, r9, ⟨y, more, r10⟩, ⟨more4, r11⟩, r12, Y, ho2, hY, hY0, hR⟩ := hrel2
          dsimp only at r4 r5 ho2 hY
          have h45 := r12 (by simp [hnl]) rfl
          have zS := size_extract t (Js.skip t s1.at_).toNat (Js.skip t s1.at_ + 1).toNat (by omega)
          have e4 : n.f4.getD ins.length z67 = ⟨3, Js.skip t s.at_, q + 1, x, [], []⟩ := by rw [r11, ← hnl, getD_mid]
          have e5 : n.f5.getD ins.length z67 = n1 := by rw [r10, getD_mid]
          refine ⟨r1, r2, r3, by omega, by omega, r6, r7, r8, r9, ⟨n1, y :: more, by rw [r10]; simp⟩, ⟨_, by rw [r11, List.append_assoc]⟩, fun _ _ => h45, t.extract (Js.skip t s.at_).toNat (q + 1).toNat ++ t.extract (Js.skip t (q + 1)).toNat (Js.skip t (q + 1) + 1).toNat ++ X ++ t.extract (Js.skip t s1.at_).toNat (Js.skip t s1.at_ + 1).toNat ++ Y, ?_, ?_, ?_, ?_⟩
          ·rw [ho2, hout]; simp only [ByteArray.append_assoc]
          ·simp only [ByteArray.size_append]; omega
          ·simp only [ByteArray.size_append]; omega
          ·have := RestO.more (t := t) (n := n) (i := ins.length) (C := t.extract (Js.skip t (q + 1)).toNat (Js.skip t (q + 1) + 1).toNat) (X := X) (S := t.extract (Js.skip t s1.at_).toNat (Js.skip t s1.at_ + 1).toNat) (Y := Y) r7 h45 (by rw [r10]; simp) (by rw [bytesOf_one t _ (by omega) hl44, ← nx_at hl44, c44]) (by rw [e5]; exact hT) (by simpa using hR) (by rw [e4]; dsimp only; omega) (by rw [e4]; dsimp only; omega) (by rw [e4]; dsimp only; omega) bC
           rw [e4] at this
           exact this
        ·rw [if_neg (fun g => ((inO g.1).1 g.2).elim c44 c93)] at h
         obtain rfl := Option.some.inj h
         obtain ⟨n, hb⟩ := l0_bad t hs s.op 125 s1.at_ p1 1 A 0 ⟨#[]⟩ (names ++ [⟨3, Js.skip t s.at_, q + 1, x, [], []⟩]) (ins ++ [n1]) (by omega) hle c44 c93 (by simp; omega)
         exact ⟨n, _, _, _, st hb, rfl, rfl, show (120 : Int) ≠ 0 by decide⟩
    ·rw [if_neg (fun g => c58 ((inC g.1).1 g.2))] at h
     dsimp only at h
     obtain rfl := Option.some.inj h
     rw [if_neg (fun g => c58 g.1), if_pos rfl, if_pos rfl] at hsg
     have hm : Ev (fun j => T_name.f j t (Js.skip t s.at_) 0 p) ((3, Js.skip t s.at_, q + 1, x, [], [], t, Js.skip t (q + 1), 120, Js.skip t (q + 1)) : Tup) := by
      unfold T_name.f
      refine Ev.pos rfl (Ev.bind htx2 ?_)
      dsimp only
      exact Ev.pos rfl (Ev.bind hsg (Ev.now _))
     refine ⟨⟨1, A, 0, ⟨#[]⟩, names ++ [⟨3, Js.skip t s.at_, q + 1, x, [], []⟩], ins⟩, Js.skip t (q + 1), 120, Js.skip t (q + 1), stn hm ?_, rfl, rfl, show (120 : Int) ≠ 0 by decide⟩
     dsimp only
     exact Ev.neg (show ¬ (120 : Int) = 0 by decide) (l0_err t _ _ _ _ _ _ 1 A 0 ⟨#[]⟩ _ ins (by decide))
  ·rw [if_neg c34] at h
   obtain rfl := Option.some.inj h
   obtain ⟨n, hn⟩ := bad c34
   exact ⟨n, _, _, _, hn, rfl, rfl, show (120 : Int) ≠ 0 by decide⟩
 ·rw [if_neg c] at h
  obtain rfl := Option.some.inj h
  obtain ⟨n, hn⟩ := bad (by rw [nx_end c]; decide)
  exact ⟨n, _, _, _, hn, rfl, rfl, show (120 : Int) ≠ 0 by decide⟩
end Cpl
end Go.Proofs.YtbpiahpkbapijaaDoor.J
end
section
namespace Go.Proofs.YtbpiahpkbapijaaDoor.J
open Go.RowKit Go.Proofs.YtbpiahpkbapijaaDoorW.PrintWords Go.Proofs.YtbpiahpkbapijaaDoorW.PrintLast Go.Proofs.YtbpiahpkbapijaaDoorW.PrintMore
set_option linter.unusedVariables false
set_option linter.unusedSimpArgs false
open Go.Proofs.YtbpiahpkbapijaaDoor.U
namespace Cpl
theorem VRel.up {t : ByteArray} {s : JS} {b p : Int} {n : S67} {a' e' p' : Int} {r : JR JS} (hb : s.at_ ≤ b) (h : VRel t ⟨b, s.op, s.out⟩ p n a' e' p' r) : VRel t s p n a' e' p' r := by
 rcases r with x | s'
 ·exact h
 ·obtain ⟨r1, r2, r3, r4, r5, r6, X, ho, hX, h0, hT⟩ := h
  dsimp only at r4 r5 ho hX
  exact ⟨r1, r2, r3, r4, by omega, r6, X, ho, by omega, h0, hT⟩
variable (t : ByteArray) (hs : t.size ≤ 67108864)
include hs
theorem val_step (k : Nat) (hA : ARR t k) (hO : OBJ t k) : VAL t (k + 1) := by
 intro s p r hok h
 have q0 := skip_ge hok.a1
 have q1 := skip_le hok.a1
 have o0 := hok.o0
 have o1 := hok.o1
 have a0 := hok.a0
 rw [Js.value, peek_eq hok.a1] at h
 have hN := fun c1 c2 c3 c4 c5 c6 => val_num t hs s.at_ p s.op a0 hok.a1 c1 c2 c3 c4 c5 c6
 have bad : r = .error (120, Js.skip t s.at_) → numD t (Js.skip t s.at_) = Js.skip t s.at_ → nx t s.at_ ≠ 123 → nx t s.at_ ≠ 91 → nx t s.at_ ≠ 34 → nx t s.at_ ≠ 116 → nx t s.at_ ≠ 102 → nx t s.at_ ≠ 110 →
   ∃ n a' e' p', Ev (fun j => T_value.f j t s.at_ 0 p s.op) (tup n t a' e' p') ∧ VRel t s p n a' e' p' r := by
  intro hr hd c1 c2 c3 c4 c5 c6
  subst hr
  have := hN c1 c2 c3 c4 c5 c6
  rw [if_pos hd] at this
  exact ⟨⟨4, Js.skip t s.at_, numD t (Js.skip t s.at_), ⟨#[]⟩, [], []⟩, _, _, _, this, rfl, rfl, show (120 : Int) ≠ 0 by decide⟩
 by_cases c : Js.skip t s.at_ < (t.size : Int)
 ·rw [if_pos c] at h
  dsimp only at h
  have hok1 : Sok t ⟨Js.skip t s.at_, s.op, s.out⟩ := ⟨by dsimp only; omega, q1, o0, o1⟩
  have deep : ∀ {F : Nat → Option Tup}, F = (fun _ => (T_fail.f t (Js.skip t s.at_) 0 p 4 (Js.skip t s.at_)).bind fun q => (some (0, 0, 0, (⟨#[]⟩ : ByteArray), ([] : List (S67)), ([] : List (S67)), q.1, q.2.1, q.2.2.1, q.2.2.2))) → Ev F (tup z67 t (Js.skip t s.at_) 4 (Js.skip t s.at_)) := by
   intro F hF
   rw [hF, fail0]
   exact Ev.now _
  by_cases c123 : nx t s.at_ = 123
  ·rw [if_pos c123] at h
   have st : ∀ {r : Tup}, Ev (fun j => if s.op ≥ 200 then ((T_fail.f t (Js.skip t s.at_) 0 p 4 (Js.skip t s.at_)).bind fun q => (some (0, 0, 0, (⟨#[]⟩ : ByteArray), ([] : List (S67)), ([] : List (S67)), q.1, q.2.1, q.2.2.1, q.2.2.2))) else (T_inside.j0 j (wrap64 (s.op + 1)) 125 t (Js.skip t s.at_) 0 p 1 (Js.skip t s.at_) 0 (⟨#[]⟩ : ByteArray))) r → Ev (fun j => T_value.f j t s.at_ 0 p s.op) r := by
    intro r hr
    refine Ev.step (fun k => by rw [T_value.f]) ?_
    refine Ev.bind (next_ev t hs 0 p s.at_ a0 hok.a1) ?_
    exact Ev.pos c123 hr
   by_cases g : s.op ≥ 200
   ·cases k with
    | zero => cases h
    | succ k =>
     rw [Js.object] at h
     unfold Js.bracket at h
     rw [if_pos (by show s.op = 200; omega)] at h
     obtain rfl := Option.some.inj h
     exact ⟨z67, _, _, _, st (Ev.pos g (deep rfl)), rfl, rfl, show (4 : Int) ≠ 0 by decide⟩
   ·obtain ⟨n, a', e', p', hev, hrel⟩ := hO _ p r hok1 c (by dsimp only; omega) h
    refine ⟨n, a', e', p', st (Ev.neg g ?_), hrel.up q0⟩
    rw [U.w64 (by omega) (by omega)]
    exact hev
  ·rw [if_neg c123] at h
   by_cases c91 : nx t s.at_ = 91
   ·rw [if_pos c91] at h
    have st : ∀ {r : Tup}, Ev (fun j => if s.op ≥ 200 then ((T_fail.f t (Js.skip t s.at_) 0 p 4 (Js.skip t s.at_)).bind fun q => (some (0, 0, 0, (⟨#[]⟩ : ByteArray), ([] : List (S67)), ([] : List (S67)), q.1, q.2.1, q.2.2.1, q.2.2.2))) else (T_inside.j0 j (wrap64 (s.op + 1)) 93 t (Js.skip t s.at_) 0 p 2 (Js.skip t s.at_) 0 (⟨#[]⟩ : ByteArray))) r → Ev (fun j => T_value.f j t s.at_ 0 p s.op) r := by
     intro r hr
     refine Ev.step (fun k => by rw [T_value.f]) ?_
     refine Ev.bind (next_ev t hs 0 p s.at_ a0 hok.a1) ?_
     exact Ev.neg c123 (Ev.pos c91 hr)
    by_cases g : s.op ≥ 200
    ·cases k with
     | zero => cases h
     | succ k =>
      rw [Js.array] at h
      unfold Js.bracket at h
      rw [if_pos (by show s.op = 200; omega)] at h
      obtain rfl := Option.some.inj h
      exact ⟨z67, _, _, _, st (Ev.pos g (deep rfl)), rfl, rfl, show (4 : Int) ≠ 0 by decide⟩
    ·obtain ⟨n, a', e', p', hev, hrel⟩ := hA _ p r hok1 c (by dsimp only; omega) h
     refine ⟨n, a', e', p', st (Ev.neg g ?_), hrel.up q0⟩
     rw [U.w64 (by omega) (by omega)]
     exact hev
   ·rw [if_neg c91] at h
    by_cases c34 : nx t s.at_ = 34
    ·rw [if_pos c34] at h
     obtain rfl := Option.some.inj h
     obtain ⟨x, htx⟩ := text_ev t hs (Js.skip t s.at_) p (by omega) c
     have hqi := strN_in t t.size (Js.skip t s.at_ + 1) (by omega)
     have st : ∀ {r : Tup}, Ev (fun j => T_text.f j t (Js.skip t s.at_) 0 p) r → Ev (fun j => T_value.f j t s.at_ 0 p s.op) r := by
      intro r hr
      refine Ev.step (fun k => by rw [T_value.f]) ?_
      refine Ev.bind (next_ev t hs 0 p s.at_ a0 hok.a1) ?_
      exact Ev.neg c123 (Ev.neg c91 (Ev.pos c34 hr))
     unfold Js.quoted
     dsimp only
     by_cases z : Js.strN t t.size (Js.skip t s.at_ + 1) < 0
     ·rw [if_pos z]
      unfold TX at htx
      rw [if_pos z] at htx
      exact ⟨⟨3, Js.skip t s.at_, 0, ⟨#[]⟩, [], []⟩, _, _, _, st htx, rfl, rfl, show (125 : Int) ≠ 0 by decide⟩
     ·rw [if_neg z]
      unfold TX at htx
      rw [if_neg z] at htx
      have e := tk_eq t ⟨Js.skip t s.at_, s.op, s.out⟩ (Js.strN t t.size (Js.skip t s.at_ + 1) + 1)
      dsimp only at e
      rw [e]
      have zz := size_extract t (Js.skip t s.at_).toNat (Js.strN t t.size (Js.skip t s.at_ + 1) + 1).toNat (by omega)
      refine ⟨⟨3, Js.skip t s.at_, Js.strN t t.size (Js.skip t s.at_ + 1) + 1, x, [], []⟩, _, _, _, st htx, VRel.up (b := Js.skip t s.at_) q0 ?_⟩
      refine ⟨rfl, rfl, rfl, rfl, by dsimp only; omega, by dsimp only; omega, _, rfl, ?_, ?_, ?_⟩
      ·dsimp only; omega
      ·omega
      ·exact TI.leaf (n := ⟨3, Js.skip t s.at_, Js.strN t t.size (Js.skip t s.at_ + 1) + 1, x, [], []⟩) (by dsimp only; omega) (by dsimp only; omega) (by dsimp only; omega) (by dsimp only; omega)
    ·rw [if_neg c34] at h
     have wd : ∀ (w : ByteArray) (kind : Int), 0 < w.size → w.size ≤ 100 → ¬ (kind = 1 ∨ kind = 2) → r = Js.word t w ⟨Js.skip t s.at_, s.op, s.out⟩ → (∀ {r : Tup}, Ev (fun _ => T_word.f t (Js.skip t s.at_) 0 p w kind) r → Ev (fun j => T_value.f j t s.at_ 0 p s.op) r) →
       ∃ n a' e' p', Ev (fun j => T_value.f j t s.at_ 0 p s.op) (tup n t a' e' p') ∧ VRel t s p n a' e' p' r := by
      intro w kind w0 w1 hkd hr st
      subst hr
      have hw := word_eq t hs (Js.skip t s.at_) p w kind (by omega) q1 w1
      have hp := prefix_iff t (Js.skip t s.at_) w (by omega) q1
      unfold Js.word
      dsimp only
      by_cases z : Lib.hasPrefix (t.extract (Js.skip t s.at_).toNat t.size).data.toList w.data.toList = true
      ·rw [if_pos z]
       rw [if_pos z] at hw
       have hb := (hp.1 z).1
       have zz := size_extract t (Js.skip t s.at_).toNat (Js.skip t s.at_ + w.size).toNat (by omega)
       refine ⟨⟨kind, Js.skip t s.at_, Js.skip t s.at_ + w.size, ⟨#[]⟩, [], []⟩, _, _, _, st (by rw [hw]; exact Ev.now _), VRel.up (b := Js.skip t s.at_) q0 ?_⟩
       unfold Js.tk
       refine ⟨rfl, rfl, rfl, rfl, by dsimp only; omega, by dsimp only; omega, _, rfl, ?_, ?_, ?_⟩
       ·dsimp only; omega
       ·dsimp only; omega
       ·exact TI.leaf (n := ⟨kind, Js.skip t s.at_, Js.skip t s.at_ + w.size, ⟨#[]⟩, [], []⟩) hkd (by dsimp only; omega) (by dsimp only; omega) (by dsimp only; omega)
      ·rw [if_neg z]
       rw [if_neg z] at hw
       exact ⟨⟨kind, Js.skip t s.at_, 0, ⟨#[]⟩, [], []⟩, _, _, _, st (by rw [hw]; exact Ev.now _), rfl, rfl, show (120 : Int) ≠ 0 by decide⟩
     by_cases c116 : nx t s.at_ = 116
     ·rw [if_pos c116] at h
      refine wd ⟨#[116, 114, 117, 101]⟩ 5 (by decide) (by decide) (by decide) (Option.some.inj h).symm (fun hr => ?_)
      refine Ev.step (fun k => by rw [T_value.f]) ?_
      refine Ev.bind (next_ev t hs 0 p s.at_ a0 hok.a1) ?_
      exact Ev.neg c123 (Ev.neg c91 (Ev.neg c34 (Ev.pos c116 hr)))
     ·rw [if_neg c116] at h
      by_cases c102 : nx t s.at_ = 102
      ·rw [if_pos c102] at h
       refine wd ⟨#[102, 97, 108, 115, 101]⟩ 6 (by decide) (by decide) (by decide) (Option.some.inj h).symm (fun hr => ?_)
       refine Ev.step (fun k => by rw [T_value.f]) ?_
       refine Ev.bind (next_ev t hs 0 p s.at_ a0 hok.a1) ?_
       exact Ev.neg c123 (Ev.neg c91 (Ev.neg c34 (Ev.neg c116 (Ev.pos c102 hr))))
      ·rw [if_neg c102] at h
       by_cases c110 : nx t s.at_ = 110
       ·rw [if_pos c110] at h
        refine wd ⟨#[110, 117, 108, 108]⟩ 7 (by decide) (by decide) (by decide) (Option.some.inj h).symm (fun hr => ?_)
        refine Ev.step (fun k => by rw [T_value.f]) ?_
        refine Ev.bind (next_ev t hs 0 p s.at_ a0 hok.a1) ?_
        exact Ev.neg c123 (Ev.neg c91 (Ev.neg c34 (Ev.neg c116 (Ev.neg c102 (Ev.pos c110 hr)))))
       ·rw [if_neg c110] at h
        have eB := nx_at c
        by_cases cn : nx t s.at_ = 45 ∨ (48 ≤ nx t s.at_ ∧ nx t s.at_ ≤ 57)
        ·rw [if_pos cn] at h
         obtain rfl := Option.some.inj h
         unfold Js.number at bad ⊢
         dsimp only at bad ⊢
         by_cases z : Js.run t (Js.numA t (Js.skip t s.at_)) = Js.numA t (Js.skip t s.at_)
         ·rw [if_pos (by omega)] at bad ⊢
          exact bad rfl (if_pos z) c123 c91 c34 c116 c102 c110
         ·rw [if_neg (by omega)]
          have hd := numD_in t q1 z
          have e := tk_eq t ⟨Js.skip t s.at_, s.op, s.out⟩ (numD t (Js.skip t s.at_))
          dsimp only at e
          rw [← hd.1, e]
          have zz := size_extract t (Js.skip t s.at_).toNat (numD t (Js.skip t s.at_)).toNat (by omega)
          have hv := hN c123 c91 c34 c116 c102 c110
          rw [if_neg (by omega)] at hv
          refine ⟨⟨4, Js.skip t s.at_, numD t (Js.skip t s.at_), t.extract (Js.skip t s.at_).toNat (numD t (Js.skip t s.at_)).toNat, [], []⟩, _, _, _, hv, VRel.up (b := Js.skip t s.at_) q0 ?_⟩
          refine ⟨rfl, rfl, rfl, rfl, by dsimp only; omega, by dsimp only; omega, _, rfl, ?_, ?_, ?_⟩
          ·dsimp only; omega
          ·omega
          ·exact TI.leaf (n := ⟨4, Js.skip t s.at_, numD t (Js.skip t s.at_), t.extract (Js.skip t s.at_).toNat (numD t (Js.skip t s.at_)).toNat, [], []⟩) (by dsimp only; omega) (by dsimp only; omega) (by dsimp only; omega) (by dsimp only; omega)
        ·rw [if_neg cn] at h
         obtain rfl := Option.some.inj h
         refine bad rfl (if_pos ?_) c123 c91 c34 c116 c102 c110
         have eA : Js.numA t (Js.skip t s.at_) = Js.skip t s.at_ := if_neg (by unfold Js.is_; rw [decide_eq_true c, Bool.true_and]; exact fun g => by have := (isIn1 45 (Or.inr (Or.inl rfl)) t (Js.skip t s.at_)).1 g; omega)
         rw [eA, Js.run_eq, if_pos c, if_neg (by unfold Js.digit; rw [← eB]; simp; omega)]
 ·rw [if_neg c] at h
  obtain rfl := Option.some.inj h
  have en := nx_end c
  have eA : Js.numA t (Js.skip t s.at_) = Js.skip t s.at_ := if_neg (by unfold Js.is_; rw [decide_eq_false c, Bool.false_and]; decide)
  exact bad rfl (if_pos (by rw [eA, Js.run_eq, if_neg c])) (by rw [en]; decide) (by rw [en]; decide) (by rw [en]; decide) (by rw [en]; decide) (by rw [en]; decide) (by rw [en]; decide)
theorem all_steps : ∀ k, VAL t k ∧ ELE t k ∧ ARR t k ∧ MEM t k ∧ OBJ t k
 | 0 => ⟨fun s p r _ h => (by rw [Js.value] at h; cases h), fun s p r A ins _ _ h => (by rw [Js.elems] at h; cases h), fun s p r _ _ _ h => (by rw [Js.array] at h; cases h), fun s p r A nm ins _ _ _ h => (by rw [Js.members] at h; cases h), fun s p r _ _ _ h => (by rw [Js.object] at h; cases h)⟩
 | k + 1 =>
  have ⟨hV, hE, hA, hM, hO⟩ := all_steps k
  ⟨val_step t hs k hA hO, elems_step t hs k hV hE, arr_step t hs k hE, mem_step t hs k hV hM, obj_step t hs k hM⟩
theorem pos_of {k : Nat} {s s1 : JS} (hok : Sok t s) (h : Js.value t k s = some (.ok s1)) : s.at_ < s1.at_ ∧ Sok t s1 := by
 obtain ⟨n, a', e', p', _, r1, r2, r3, r4, r5, r6, _⟩ := (all_steps t hs k).1 s 0 _ hok h
 exact ⟨r5, ⟨by have := hok.a0; omega, r6, by rw [r4]; exact hok.o0, by rw [r4]; exact hok.o1⟩⟩
theorem tot : ∀ k : Nat, (∀ s, Sok t s → 3 * ((t.size : Int) - s.at_) + 3 ≤ k → ∃ r, Js.value t k s = some r) ∧ (∀ s, Sok t s → 3 * ((t.size : Int) - s.at_) + 4 ≤ k → ∃ r, Js.elems t k s = some r) ∧
  (∀ s, Sok t s → s.at_ < (t.size : Int) → 3 * ((t.size : Int) - s.at_) + 2 ≤ k → ∃ r, Js.array t k s = some r) ∧ (∀ s, Sok t s → 3 * ((t.size : Int) - s.at_) + 4 ≤ k → ∃ r, Js.members t k s = some r) ∧ (∀ s, Sok t s → s.at_ < (t.size : Int) → 3 * ((t.size : Int) - s.at_) + 2 ≤ k → ∃ r, Js.object t k s = some r)
 | 0 => ⟨fun s h g => by have := h.a1; omega, fun s h g => by have := h.a1; omega, fun s h _ g => by have := h.a1; omega, fun s h g => by have := h.a1; omega, fun s h _ g => by have := h.a1; omega⟩
 | k + 1 => by
  obtain ⟨tV, tE, tA, tM, tO⟩ := tot k
  refine ⟨fun s h g => ?_, fun s h g => ?_, fun s h hl g => ?_, fun s h g => ?_, fun s h hl g => ?_⟩
  ·have q0 := skip_ge h.a1
   have a0 := h.a0
   rw [Js.value, peek_eq h.a1]
   by_cases c : Js.skip t s.at_ < (t.size : Int)
   ·rw [if_pos c]
    dsimp only
    have hok1 : Sok t ⟨Js.skip t s.at_, s.op, s.out⟩ := ⟨by dsimp only; omega, by dsimp only; omega, h.o0, h.o1⟩
    split
    ·exact tO _ hok1 c (by dsimp only; omega)
    ·split
     ·exact tA _ hok1 c (by dsimp only; omega)
     ·split
      ·exact ⟨_, rfl⟩
      ·split
       ·exact ⟨_, rfl⟩
       ·split
        ·exact ⟨_, rfl⟩
        ·split
         ·exact ⟨_, rfl⟩
         ·split <;> exact ⟨_, rfl⟩
   ·rw [if_neg c]; exact ⟨_, rfl⟩
  ·rw [Js.elems]
   obtain ⟨r, hr⟩ := tV s h (by omega)
   rw [hr]
   rcases r with x | s1
   ·exact ⟨_, rfl⟩
   ·obtain ⟨h1, hok1⟩ := pos_of t hs h hr
    have q0 := skip_ge hok1.a1
    have a0 := h.a0
    dsimp only
    rw [sign_eq _ hok1.a1]
    split
    ·exact ⟨_, rfl⟩
    ·rename_i c s2 heq
     split at heq
     ·rename_i gg
      injection heq with heq
      injection heq with e1 e2
      subst e2
      split
      ·exact tE _ ⟨by dsimp only; omega, by dsimp only; omega, hok1.o0, hok1.o1⟩ (by dsimp only; omega)
      ·exact ⟨_, rfl⟩
     ·cases heq
  ·rw [Js.array]
   have a0 := h.a0
   have o0 := h.o0
   have o1 := h.o1
   unfold Js.bracket
   by_cases g2 : s.op = 200
   ·rw [if_pos g2]; exact ⟨_, rfl⟩
   ·rw [if_neg g2]
    dsimp only
    have q0 := skip_ge (t := t) (a := s.at_ + 1) (by omega)
    rw [peek_eq (by show s.at_ + 1 ≤ _; omega)]
    have eo : (Js.tk t 1 ⟨s.at_, s.op + 1, s.out⟩) = ⟨s.at_ + 1, s.op + 1, s.out ++ t.extract s.at_.toNat (s.at_ + 1).toNat⟩ := rfl
    rw [eo]
    dsimp only
    by_cases c : Js.skip t (s.at_ + 1) < (t.size : Int)
    ·rw [if_pos c]
     dsimp only
     split
     ·exact ⟨_, rfl⟩
     ·exact tE _ ⟨by dsimp only; omega, by dsimp only; omega, by dsimp only; omega, by dsimp only; omega⟩ (by dsimp only; omega)
    ·rw [if_neg c]; exact ⟨_, rfl⟩
  ·rw [Js.members, peek_eq h.a1]
   have a0 := h.a0
   have q0 := skip_ge h.a1
   by_cases c : Js.skip t s.at_ < (t.size : Int)
   ·rw [if_pos c]
    dsimp only
    split
    ·unfold Js.quoted
     dsimp only
     have hqi := strN_in t t.size (Js.skip t s.at_ + 1) (by omega)
     by_cases z : Js.strN t t.size (Js.skip t s.at_ + 1) < 0
     ·rw [if_pos z]; exact ⟨_, rfl⟩
     ·rw [if_neg z]
      dsimp only
      have e := tk_eq t ⟨Js.skip t s.at_, s.op, s.out⟩ (Js.strN t t.size (Js.skip t s.at_ + 1) + 1)
      dsimp only at e
      rw [e, sign_eq _ (by dsimp only; omega)]
      have q2 := skip_ge (t := t) (a := Js.strN t t.size (Js.skip t s.at_ + 1) + 1) (by omega)
      dsimp only
      split
      ·exact ⟨_, rfl⟩
      ·rename_i c2 s2 heq
       split at heq
       ·rename_i gg
        injection heq with heq
        injection heq with e1 e2
        subst e2
        have hok3 : Sok t ⟨Js.skip t (Js.strN t t.size (Js.skip t s.at_ + 1) + 1) + 1, s.op, s.out ++ t.extract (Js.skip t s.at_).toNat (Js.strN t t.size (Js.skip t s.at_ + 1) + 1).toNat ++ t.extract (Js.skip t (Js.strN t t.size (Js.skip t s.at_ + 1) + 1)).toNat (Js.skip t (Js.strN t t.size (Js.skip t s.at_ + 1) + 1) + 1).toNat⟩ := ⟨by dsimp only; omega, by dsimp only; omega, h.o0, h.o1⟩
        obtain ⟨r, hr⟩ := tV _ hok3 (by dsimp only; omega)
        rw [hr]
        rcases r with x | s1
        ·exact ⟨_, rfl⟩
        ·obtain ⟨h1, hok1⟩ := pos_of t hs hok3 hr
         have q3 := skip_ge hok1.a1
         dsimp only at h1 ⊢
         rw [sign_eq _ hok1.a1]
         split
         ·exact ⟨_, rfl⟩
         ·rename_i c s2 heq
          split at heq
          ·rename_i gg2
           injection heq with heq
           injection heq with e1 e2
           subst e2
           split
           ·exact tM _ ⟨by dsimp only; omega, by dsimp only; omega, hok1.o0, hok1.o1⟩ (by dsimp only; omega)
           ·exact ⟨_, rfl⟩
          ·cases heq
       ·cases heq
    ·exact ⟨_, rfl⟩
   ·rw [if_neg c]; exact ⟨_, rfl⟩
  ·rw [Js.object]
   have a0 := h.a0
   have o0 := h.o0
   have o1 := h.o1
   unfold Js.bracket
   by_cases g2 : s.op = 200
   ·rw [if_pos g2]; exact ⟨_, rfl⟩
   ·rw [if_neg g2]
    dsimp only
    have q0 := skip_ge (t := t) (a := s.at_ + 1) (by omega)
    rw [peek_eq (by show s.at_ + 1 ≤ _; omega)]
    have eo : (Js.tk t 1 ⟨s.at_, s.op + 1, s.out⟩) = ⟨s.at_ + 1, s.op + 1, s.out ++ t.extract s.at_.toNat (s.at_ + 1).toNat⟩ := rfl
    rw [eo]
    dsimp only
    by_cases c : Js.skip t (s.at_ + 1) < (t.size : Int)
    ·rw [if_pos c]
     dsimp only
     split
     ·exact ⟨_, rfl⟩
     ·exact tM _ ⟨by dsimp only; omega, by dsimp only; omega, by dsimp only; omega, by dsimp only; omega⟩ (by dsimp only; omega)
    ·rw [if_neg c]; exact ⟨_, rfl⟩
end Cpl
end Go.Proofs.YtbpiahpkbapijaaDoor.J
end
section
namespace Go.Proofs.YtbpiahpkbapijaaDoor.Utf8
open Go.RowKit Go.Proofs.YtbpiahpkbapijaaDoor.J Go.Proofs.YtbpiahpkbapijaaDoorW.PrintWords Go.Proofs.YtbpiahpkbapijaaDoor.U
theorem wire_skip (s : ByteArray) (at_ i : Int) (ha : 0 ≤ at_) (ha2 : at_ < (s.size : Int)) (h0 : 0 ≤ i) (h1 : i < 9) (h : bt s at_ < wlo i ∨ bt s at_ > whi i) {r : Int} (hr : Ev (fun k => wire_character.l0 k s at_ (i + 1)) r) :
  Ev (fun k => wire_character.l0 k s at_ i) r := by
 refine Ev.step (f := fun k => wire_character.l0 k s at_ (i + 1)) (fun k => ?_) hr
 simp only [wire_character.l0]
 rw [if_pos h1, if_pos ha, if_pos ha2, U.w64 (n := i + 1) (by omega) (by omega)]
 by_cases c : bt s at_ < wlo i
 ·rw [if_pos c]
 ·rw [if_neg c, if_pos (by omega)]
theorem behind (s : ByteArray) (hs : s.size ≤ 140737488355328) (at_ i : Int) (ha : 0 ≤ at_) (m : Nat) (hm : wmore i = (m : Int)) (hm2 : at_ + (m : Int) < (s.size : Int)) (d : Nat) : ∀ j : Nat, 1 ≤ j → m + 1 - j = d →
  ∃ r, Ev (fun k => wire_character.l1 k s at_ i (j : Int)) r ∧ Ev (fun k => U_follow.l0 k s at_ ((m : Int) + 1) (if (j : Int) = 1 then wlo2 i else 128) (if (j : Int) = 1 then whi2 i else 191) (j : Int)) r ∧ (r = 0 ∨ r = (m : Int) + 1) := by
 induction d with
 | zero =>
  intro j hj hd
  refine ⟨(m : Int) + 1, Ev.step (f := fun _ => some ((m : Int) + 1)) (fun k => ?_) (Ev.now _), Ev.step (f := fun _ => some ((m : Int) + 1)) (fun k => ?_) (Ev.now _), .inr rfl⟩
  ·simp only [wire_character.l1]; rw [if_neg (by omega), hm]; congr 1; omega
  ·simp only [U_follow.l0]; rw [if_neg (by omega)]
 | succ d ih =>
  intro j hj hd
  obtain ⟨r, h1, h2, h3⟩ := ih (j + 1) (by omega) (by omega)
  have hb := bt_range s (at_ + j)
  have e1 : ∀ k, wire_character.l1 (k + 1) s at_ i (j : Int) = if bt s (at_ + j) < (if (j : Int) = 1 then wlo2 i else 128) then some 0 else (if bt s (at_ + j) > (if (j : Int) = 1 then whi2 i else 191) then some 0 else wire_character.l1 k s at_ i ((j + 1 : Nat) : Int)) := by
   intro k
   simp only [wire_character.l1]
   rw [if_pos (by omega), U.w64 (n := at_ + j) (by omega) (by omega), if_pos (by omega), if_pos (by omega), U.w64 (n := (j : Int) + 1) (by omega) (by omega)]
   rfl
  have e2 : ∀ lo hi k, U_follow.l0 (k + 1) s at_ ((m : Int) + 1) lo hi (j : Int) = if bt s (at_ + j) < lo then some 0 else (if bt s (at_ + j) > hi then some 0 else U_follow.l0 k s at_ ((m : Int) + 1) 128 191 ((j + 1 : Nat) : Int)) := by
   intro lo hi k
   simp only [U_follow.l0]
   rw [if_pos (by omega), U.w64 (n := at_ + j) (by omega) (by omega), if_pos (by omega), if_pos (by omega), U.w64 (n := (j : Int) + 1) (by omega) (by omega), U.w64 (n := bt s (at_ + j)) (by omega) (by omega)]
   rfl
  rw [if_neg (show ¬ ((j + 1 : Nat) : Int) = 1 by omega), if_neg (show ¬ ((j + 1 : Nat) : Int) = 1 by omega)] at h2
  generalize hlo : (if (j : Int) = 1 then wlo2 i else 128) = lo at *
  generalize hhi : (if (j : Int) = 1 then whi2 i else 191) = hi at *
  by_cases c1 : bt s (at_ + j) < lo
  ·refine ⟨0, Ev.step e1 ?_, Ev.step (e2 lo hi) ?_, .inl rfl⟩
   ·simp only [if_pos c1]; exact Ev.now _
   ·simp only [if_pos c1]; exact Ev.now _
  ·by_cases c2 : bt s (at_ + j) > hi
   ·refine ⟨0, Ev.step e1 ?_, Ev.step (e2 lo hi) ?_, .inl rfl⟩
    ·simp only [if_neg c1, if_pos c2]; exact Ev.now _
    ·simp only [if_neg c1, if_pos c2]; exact Ev.now _
   ·refine ⟨r, Ev.step e1 ?_, Ev.step (e2 lo hi) ?_, h3⟩
    ·simp only [if_neg c1, if_neg c2]; exact h1
    ·simp only [if_neg c1, if_neg c2]; exact h2
theorem wire_hit (s : ByteArray) (hs : s.size ≤ 140737488355328) (at_ i : Int) (ha : 0 ≤ at_) (ha2 : at_ < (s.size : Int)) (_h0 : 0 ≤ i) (h1 : i < 9) (hl : ¬ bt s at_ < wlo i) (hh : ¬ bt s at_ > whi i) (m : Nat) (hm : wmore i = (m : Int)) (hm3 : m ≤ 3) :
  ∃ r, Ev (fun k => wire_character.l0 k s at_ i) r ∧ Ev (fun k => U_follow.j3 k s at_ ((m : Int) + 1) (wlo2 i) (whi2 i)) r ∧ (r = 0 ∨ r = (m : Int) + 1 ∧ at_ + r ≤ s.size) := by
 by_cases c : at_ + (m : Int) < (s.size : Int)
 ·obtain ⟨r, h1', h2', h3'⟩ := behind s hs at_ i ha m hm c m 1 (by omega) (by omega)
  refine ⟨r, Ev.step (f := fun k => wire_character.l1 k s at_ i 1) (fun k => ?_) h1', Ev.step (f := fun k => U_follow.l0 k s at_ ((m : Int) + 1) (wlo2 i) (whi2 i) 1) (fun k => ?_) h2', ?_⟩
  ·simp only [wire_character.l0]; rw [if_pos h1, if_pos ha, if_pos ha2, if_neg hl, if_neg hh, hm, U.w64 (n := at_ + m) (by omega) (by omega), if_neg (by omega)]
  ·simp only [U_follow.j3]; rw [U.w64 (by omega) (by omega), if_neg (by omega)]
  ·rcases h3' with h | h
   ·exact .inl h
   ·exact .inr ⟨h, by omega⟩
 ·refine ⟨0, Ev.step (f := fun _ => some 0) (fun k => ?_) (Ev.now _), Ev.step (f := fun _ => some 0) (fun k => ?_) (Ev.now _), .inl rfl⟩
  ·simp only [wire_character.l0]; rw [if_pos h1, if_pos ha, if_pos ha2, if_neg hl, if_neg hh, hm, U.w64 (n := at_ + m) (by omega) (by omega), if_pos (by omega)]
  ·simp only [U_follow.j3]; rw [U.w64 (by omega) (by omega), if_pos (by omega)]
theorem chr_both (s : ByteArray) (hs : s.size ≤ 140737488355328) (at_ : Int) (ha : 0 ≤ at_) (ha2 : at_ < (s.size : Int)) :
  ∃ r, Ev (fun k => wire_character.f k s at_) r ∧ Ev (fun k => U_follow.f k s at_) r ∧ (r = 0 ∨ 1 ≤ r ∧ r ≤ 4 ∧ at_ + r ≤ s.size) ∧ (r = 1 ↔ bt s at_ < 128) := by
 have hb := bt_range s at_
 have l0 : wlo 0 = 0 := rfl
 have l1 : wlo 1 = 194 := rfl
 have l2 : wlo 2 = 224 := rfl
 have l3 : wlo 3 = 225 := rfl
 have l4 : wlo 4 = 237 := rfl
 have l5 : wlo 5 = 238 := rfl
 have l6 : wlo 6 = 240 := rfl
 have l7 : wlo 7 = 241 := rfl
 have l8 : wlo 8 = 244 := rfl
 have u0 : whi 0 = 127 := rfl
 have u1 : whi 1 = 223 := rfl
 have u2 : whi 2 = 224 := rfl
 have u3 : whi 3 = 236 := rfl
 have u4 : whi 4 = 237 := rfl
 have u5 : whi 5 = 239 := rfl
 have u6 : whi 6 = 240 := rfl
 have u7 : whi 7 = 243 := rfl
 have u8 : whi 8 = 244 := rfl
 have hw : wrap64 (bt s at_) = bt s at_ := U.w64 (by omega) (by omega)
 have sk : ∀ i : Int, 0 ≤ i → i < 9 → (bt s at_ < wlo i ∨ bt s at_ > whi i) → ∀ r, Ev (fun k => wire_character.l0 k s at_ (i + 1)) r → Ev (fun k => wire_character.l0 k s at_ i) r := fun i h0 h1 h r hr => wire_skip s at_ i ha ha2 h0 h1 h hr
 have s0 := sk 0 (by omega) (by omega)
 have s1 := sk 1 (by omega) (by omega)
 have s2 := sk 2 (by omega) (by omega)
 have s3 := sk 3 (by omega) (by omega)
 have s4 := sk 4 (by omega) (by omega)
 have s5 := sk 5 (by omega) (by omega)
 have s6 := sk 6 (by omega) (by omega)
 have s7 := sk 7 (by omega) (by omega)
 have s8 := sk 8 (by omega) (by omega)
 have none9 : Ev (fun k => wire_character.l0 k s at_ 9) 0 := Ev.step (f := fun _ => some 0) (fun k => by simp only [wire_character.l0]; rw [if_neg (by omega)]) (Ev.now _)
 have fin : ∀ {r : Int} {m : Nat}, 1 ≤ m → m ≤ 3 → ¬ bt s at_ < 128 → (r = 0 ∨ r = (m : Int) + 1 ∧ at_ + r ≤ s.size) → (r = 0 ∨ 1 ≤ r ∧ r ≤ 4 ∧ at_ + r ≤ s.size) ∧ (r = 1 ↔ bt s at_ < 128) := by
  intro r m h1 h3 h4 h
  constructor
  ·rcases h with h | ⟨h, h'⟩
   ·exact .inl h
   ·exact .inr (by omega)
  ·constructor <;> intro h' <;> omega
 by_cases c0 : bt s at_ < 128
 ·obtain ⟨r, h1, _, h3⟩ := wire_hit s hs at_ 0 ha ha2 (by omega) (by omega) (by omega) (by omega) 0 rfl (by omega)
  refine ⟨1, ?_, Ev.some' _ (fun k => by simp only [U_follow.f]; rw [if_pos ha, if_pos ha2, hw, if_pos c0]), by omega, by omega⟩
  refine Ev.step (f := fun k => wire_character.l1 k s at_ 0 1) (fun k => ?_) (Ev.step (f := fun _ => some 1) (fun k => ?_) (Ev.now _))
  ·simp only [wire_character.f, wire_character.l0]; rw [if_pos (by omega), if_pos ha, if_pos ha2, if_neg (by omega), if_neg (by omega), show wmore 0 = 0 from rfl, U.w64 (n := at_ + 0) (by omega) (by omega), if_neg (by omega)]
  ·simp only [wire_character.l1]; rw [show wmore 0 = 0 from rfl, if_neg (by omega)]; rfl
 have f0 : ∀ k, U_follow.f k s at_ = if bt s at_ ≥ 194 then U_follow.j0 k s at_ (bt s at_) 128 191 (decide (bt s at_ ≤ 223)) else U_follow.j0 k s at_ (bt s at_) 128 191 false := by
  intro k; simp only [U_follow.f]; rw [if_pos ha, if_pos ha2, hw, if_neg c0]
 by_cases c1 : bt s at_ < 194
 ·refine ⟨0, s0 (by omega) _ (s1 (by omega) _ (s2 (by omega) _ (s3 (by omega) _ (s4 (by omega) _ (s5 (by omega) _ (s6 (by omega) _ (s7 (by omega) _ (s8 (by omega) _ none9)))))))), ?_, by omega, by omega⟩
  refine Ev.congr (f := fun k => U_follow.j0 k s at_ (bt s at_) 128 191 false) (fun k => by rw [f0, if_neg (by omega)]) ?_
  refine Ev.step (f := fun k => U_follow.j1 k s at_ (bt s at_) 128 191 false) (fun k => by simp only [U_follow.j0]; rw [if_neg Bool.false_ne_true, if_neg (by omega)]) ?_
  refine Ev.step (f := fun k => U_follow.j2 k s at_ (bt s at_) 128 191 false) (fun k => by simp only [U_follow.j1]; rw [if_neg Bool.false_ne_true, if_neg (by omega)]) ?_
  exact Ev.step (f := fun _ => some 0) (fun k => by simp only [U_follow.j2]; rw [if_neg Bool.false_ne_true]) (Ev.now _)
 have f1 : ∀ k, U_follow.f k s at_ = U_follow.j0 k s at_ (bt s at_) 128 191 (decide (bt s at_ ≤ 223)) := by
  intro k; rw [f0, if_pos (by omega)]
 by_cases c2 : bt s at_ ≤ 223
 ·obtain ⟨r, h1, h2, h3⟩ := wire_hit s hs at_ 1 ha ha2 (by omega) (by omega) (by omega) (by omega) 1 rfl (by omega)
  refine ⟨r, s0 (by omega) _ h1, Ev.congr f1 (Ev.step (f := fun k => U_follow.j3 k s at_ 2 128 191) (fun k => ?_) h2), fin (m := 1) (by omega) (by omega) c0 h3⟩
  simp only [U_follow.j0]; rw [if_pos (by simpa using c2)]
 have f2 : ∀ k, U_follow.j0 (k + 1) s at_ (bt s at_) 128 191 (decide (bt s at_ ≤ 223)) = U_follow.j1 k s at_ (bt s at_) 128 191 (decide (bt s at_ ≤ 239)) := by
  intro k; simp only [U_follow.j0]; rw [if_neg (by simpa using c2), if_pos (by omega)]
 by_cases c3 : bt s at_ ≤ 239
 ·have f3 : ∀ k, U_follow.j1 (k + 1) s at_ (bt s at_) 128 191 (decide (bt s at_ ≤ 239)) = if bt s at_ = 224 then U_follow.j3 k s at_ 3 160 191 else (if bt s at_ = 237 then U_follow.j3 k s at_ 3 128 159 else U_follow.j3 k s at_ 3 128 191) := by
   intro k; simp only [U_follow.j1]; rw [if_pos (by simpa using c3)]
   by_cases e : bt s at_ = 224
   ·rw [if_pos e, if_pos e, if_neg (by omega)]
   ·rw [if_neg e, if_neg e]
  by_cases e1 : bt s at_ = 224
  ·obtain ⟨r, h1, h2, h3⟩ := wire_hit s hs at_ 2 ha ha2 (by omega) (by omega) (by omega) (by omega) 2 rfl (by omega)
   exact ⟨r, s0 (by omega) _ (s1 (by omega) _ h1), Ev.congr f1 (Ev.step f2 (Ev.step f3 (by simp only [if_pos e1]; exact h2))), fin (m := 2) (by omega) (by omega) c0 h3⟩
  by_cases e2 : bt s at_ ≤ 236
  ·obtain ⟨r, h1, h2, h3⟩ := wire_hit s hs at_ 3 ha ha2 (by omega) (by omega) (by omega) (by omega) 2 rfl (by omega)
   exact ⟨r, s0 (by omega) _ (s1 (by omega) _ (s2 (by omega) _ h1)), Ev.congr f1 (Ev.step f2 (Ev.step f3 (by simp only [if_neg e1, if_neg (show ¬ bt s at_ = 237 by omega)]; exact h2))), fin (m := 2) (by omega) (by omega) c0 h3⟩
  by_cases e3 : bt s at_ = 237
  ·obtain ⟨r, h1, h2, h3⟩ := wire_hit s hs at_ 4 ha ha2 (by omega) (by omega) (by omega) (by omega) 2 rfl (by omega)
   exact ⟨r, s0 (by omega) _ (s1 (by omega) _ (s2 (by omega) _ (s3 (by omega) _ h1))), Ev.congr f1 (Ev.step f2 (Ev.step f3 (by simp only [if_neg e1, if_pos e3]; exact h2))), fin (m := 2) (by omega) (by omega) c0 h3⟩
  ·obtain ⟨r, h1, h2, h3⟩ := wire_hit s hs at_ 5 ha ha2 (by omega) (by omega) (by omega) (by omega) 2 rfl (by omega)
   exact ⟨r, s0 (by omega) _ (s1 (by omega) _ (s2 (by omega) _ (s3 (by omega) _ (s4 (by omega) _ h1)))), Ev.congr f1 (Ev.step f2 (Ev.step f3 (by simp only [if_neg e1, if_neg e3]; exact h2))), fin (m := 2) (by omega) (by omega) c0 h3⟩
 have f4 : ∀ k, U_follow.j1 (k + 1) s at_ (bt s at_) 128 191 (decide (bt s at_ ≤ 239)) = U_follow.j2 k s at_ (bt s at_) 128 191 (decide (bt s at_ ≤ 244)) := by
  intro k; simp only [U_follow.j1]; rw [if_neg (by simpa using c3), if_pos (by omega)]
 by_cases c4 : bt s at_ ≤ 244
 ·have f5 : ∀ k, U_follow.j2 (k + 1) s at_ (bt s at_) 128 191 (decide (bt s at_ ≤ 244)) = if bt s at_ = 240 then U_follow.j3 k s at_ 4 144 191 else (if bt s at_ = 244 then U_follow.j3 k s at_ 4 128 143 else U_follow.j3 k s at_ 4 128 191) := by
   intro k; simp only [U_follow.j2]; rw [if_pos (by simpa using c4)]
   by_cases e : bt s at_ = 240
   ·rw [if_pos e, if_pos e, if_neg (by omega)]
   ·rw [if_neg e, if_neg e]
  by_cases e1 : bt s at_ = 240
  ·obtain ⟨r, h1, h2, h3⟩ := wire_hit s hs at_ 6 ha ha2 (by omega) (by omega) (by omega) (by omega) 3 rfl (by omega)
   exact ⟨r, s0 (by omega) _ (s1 (by omega) _ (s2 (by omega) _ (s3 (by omega) _ (s4 (by omega) _ (s5 (by omega) _ h1))))), Ev.congr f1 (Ev.step f2 (Ev.step f4 (Ev.step f5 (by simp only [if_pos e1]; exact h2)))), fin (m := 3) (by omega) (by omega) c0 h3⟩
  by_cases e2 : bt s at_ ≤ 243
  ·obtain ⟨r, h1, h2, h3⟩ := wire_hit s hs at_ 7 ha ha2 (by omega) (by omega) (by omega) (by omega) 3 rfl (by omega)
   exact ⟨r, s0 (by omega) _ (s1 (by omega) _ (s2 (by omega) _ (s3 (by omega) _ (s4 (by omega) _ (s5 (by omega) _ (s6 (by omega) _ h1)))))), Ev.congr f1 (Ev.step f2 (Ev.step f4 (Ev.step f5 (by simp only [if_neg e1, if_neg (show ¬ bt s at_ = 244 by omega)]; exact h2)))), fin (m := 3) (by omega) (by omega) c0 h3⟩
  ·obtain ⟨r, h1, h2, h3⟩ := wire_hit s hs at_ 8 ha ha2 (by omega) (by omega) (by omega) (by omega) 3 rfl (by omega)
   exact ⟨r, s0 (by omega) _ (s1 (by omega) _ (s2 (by omega) _ (s3 (by omega) _ (s4 (by omega) _ (s5 (by omega) _ (s6 (by omega) _ (s7 (by omega) _ h1))))))), Ev.congr f1 (Ev.step f2 (Ev.step f4 (Ev.step f5 (by simp only [if_neg e1, if_pos (show bt s at_ = 244 by omega)]; exact h2)))), fin (m := 3) (by omega) (by omega) c0 h3⟩
 ·refine ⟨0, s0 (by omega) _ (s1 (by omega) _ (s2 (by omega) _ (s3 (by omega) _ (s4 (by omega) _ (s5 (by omega) _ (s6 (by omega) _ (s7 (by omega) _ (s8 (by omega) _ none9)))))))), ?_, by omega, by omega⟩
  refine Ev.congr f1 (Ev.step f2 (Ev.step f4 (Ev.step (f := fun _ => some 0) (fun k => ?_) (Ev.now _))))
  simp only [U_follow.j2]; rw [if_neg (by simpa using c4)]
theorem utf8_from (s : ByteArray) (hs : s.size ≤ 140737488355328) (d : Nat) : ∀ at_ : Int, 0 ≤ at_ → at_ ≤ s.size → (s.size : Int) - at_ ≤ d →
  ∃ r, Ev (fun k => wire_Utf8.l0 k s at_) r ∧ Ev (fun k => U_Utf8.l0 k s at_) r ∧ (r = -1 ∨ at_ ≤ r ∧ r < s.size) := by
 induction d with
 | zero =>
  intro at_ h0 h1 hd
  exact ⟨-1, Ev.step (f := fun _ => some (-1)) (fun k => by simp only [wire_Utf8.l0]; rw [if_neg (by omega)]) (Ev.now _), Ev.step (f := fun _ => some (-1)) (fun k => by simp only [U_Utf8.l0]; rw [if_neg (by omega)]) (Ev.now _), .inl rfl⟩
 | succ d ih =>
  intro at_ h0 h1 hd
  by_cases c : at_ < (s.size : Int)
  ·obtain ⟨n, hn1, hn2, hn3, _⟩ := chr_both s hs at_ h0 c
   have e1 : ∀ k, wire_Utf8.l0 (k + 1) s at_ = (wire_character.f k s at_).bind fun t => if t = 0 then some at_ else wire_Utf8.l0 k s (wrap64 (at_ + t)) := by
    intro k; simp only [wire_Utf8.l0]; rw [if_pos c]
   have e2 : ∀ k, U_Utf8.l0 (k + 1) s at_ = (U_follow.f k s at_).bind fun t => if t = 0 then some at_ else U_Utf8.l0 k s (wrap64 (at_ + t)) := by
    intro k; simp only [U_Utf8.l0]; rw [if_pos c]
   by_cases z : n = 0
   ·refine ⟨at_, Ev.step e1 (Ev.bind hn1 ?_), Ev.step e2 (Ev.bind hn2 ?_), .inr ⟨by omega, c⟩⟩
    ·simp only [if_pos z]; exact Ev.now _
    ·simp only [if_pos z]; exact Ev.now _
   ·obtain ⟨r, h1', h2', h3'⟩ := ih (at_ + n) (by omega) (by omega) (by omega)
    refine ⟨r, Ev.step e1 (Ev.bind hn1 ?_), Ev.step e2 (Ev.bind hn2 ?_), by omega⟩
    ·simp only [if_neg z]; rw [U.w64 (n := at_ + n) (by omega) (by omega)]; exact h1'
    ·simp only [if_neg z]; rw [U.w64 (n := at_ + n) (by omega) (by omega)]; exact h2'
  ·exact ⟨-1, Ev.step (f := fun _ => some (-1)) (fun k => by simp only [wire_Utf8.l0]; rw [if_neg c]) (Ev.now _), Ev.step (f := fun _ => some (-1)) (fun k => by simp only [U_Utf8.l0]; rw [if_neg c]) (Ev.now _), .inl rfl⟩
theorem utf8_both (s : ByteArray) (hs : s.size ≤ 140737488355328) : ∃ r, Ev (fun k => wire_Utf8.f k s) r ∧ Ev (fun k => U_Utf8.f k s) r ∧ (r = -1 ∨ 0 ≤ r ∧ r < s.size) :=
 utf8_from s hs s.size 0 (by omega) (by omega) (by omega)
end Go.Proofs.YtbpiahpkbapijaaDoor.Utf8
end
section
namespace Go.Proofs.YtbpiahpkbapijaaDoor.J
open Go.RowKit Go.Proofs.YtbpiahpkbapijaaDoorW.PrintWords Go.Proofs.YtbpiahpkbapijaaDoorW.PrintLast Go.Proofs.YtbpiahpkbapijaaDoorW.PrintMore
set_option linter.unusedVariables false
set_option linter.unusedSimpArgs false
open Go.Proofs.YtbpiahpkbapijaaDoor.U
namespace Cpl
set_option maxRecDepth 100000 in
theorem wmore_tab : ∀ n : Fin 9, 0 ≤ wmore (n.val : Int) ∧ wmore (n.val : Int) ≤ 3 := by decide +kernel
theorem wmore_in {i : Int} (h0 : 0 ≤ i) (h1 : i < 9) : 0 ≤ wmore i ∧ wmore i ≤ 3 := by
 have := wmore_tab ⟨i.toNat, by omega⟩
 rwa [show ((i.toNat : Nat) : Int) = i by omega] at this
variable (t : ByteArray) (hs : t.size ≤ 67108864)
include hs
theorem chr1_tot (a i : Int) (h0 : 0 ≤ a) (hm : a + wmore i < (t.size : Int)) (hw : wmore i ≤ 3) : ∀ (d k : Nat) (j : Int), (wmore i + 1 - j).toNat = d → 1 ≤ j → d + 1 ≤ k → ∃ r, wire_character.l1 k t a i j = some r
 | d, 0, j, hd, hj, hk => by omega
 | 0, k + 1, j, hd, hj, hk => by rw [wire_character.l1, if_neg (by omega)]; exact ⟨_, rfl⟩
 | d + 1, k + 1, j, hd, hj, hk => by
  rw [wire_character.l1, if_pos (by omega), U.w64 (n := a + j) (by omega) (by omega), U.w64 (n := j + 1) (by omega) (by omega), if_pos (by omega), if_pos (by omega)]
  have := chr1_tot a i h0 hm hw d k (j + 1) (by omega) (by omega) (by omega)
  by_cases c1 : bt t (a + j) < (if j = 1 then wlo2 i else 128)
  ·rw [if_pos c1]; exact ⟨_, rfl⟩
  ·rw [if_neg c1]
   by_cases c2 : bt t (a + j) > (if j = 1 then whi2 i else 191)
   ·rw [if_pos c2]; exact ⟨_, rfl⟩
   ·rw [if_neg c2]; exact this
theorem chr0_tot (a : Int) (h0 : 0 ≤ a) (h1 : a < (t.size : Int)) : ∀ (d k : Nat) (i : Int), (9 - i).toNat = d → 0 ≤ i → d + 8 ≤ k → ∃ r, wire_character.l0 k t a i = some r
 | d, 0, i, hd, hi, hk => by omega
 | 0, k + 1, i, hd, hi, hk => by rw [wire_character.l0, if_neg (by omega)]; exact ⟨_, rfl⟩
 | d + 1, k + 1, i, hd, hi, hk => by
  have hw := wmore_in hi (by omega)
  rw [wire_character.l0, if_pos (by omega), if_pos h0, if_pos h1, U.w64 (n := i + 1) (by omega) (by omega), U.w64 (n := a + wmore i) (by omega) (by omega)]
  have := chr0_tot a h0 h1 d k (i + 1) (by omega) (by omega) (by omega)
  split
  ·exact this
  ·split
   ·exact this
   ·by_cases g : a + wmore i ≥ (t.size : Int)
    ·rw [if_pos g]; exact ⟨_, rfl⟩
    ·rw [if_neg g]
     exact chr1_tot t hs a i h0 (by omega) hw.2 _ k 1 rfl (by decide) (by omega)
theorem utf_tot : ∀ (d k : Nat) (a : Int), ((t.size : Int) - a).toNat ≤ d → 0 ≤ a → a ≤ (t.size : Int) → d + 20 ≤ k → ∃ r, wire_Utf8.l0 k t a = some r
 | d, 0, a, hd, h0, h1, hk => by omega
 | 0, k + 1, a, hd, h0, h1, hk => by rw [wire_Utf8.l0, if_neg (by omega)]; exact ⟨_, rfl⟩
 | d + 1, k + 1, a, hd, h0, h1, hk => by
  rw [wire_Utf8.l0]
  by_cases c : a < (t.size : Int)
  ·rw [if_pos c]
   obtain ⟨n, hn1, hn2, hn3, _⟩ := Utf8.chr_both t (by omega) a h0 c
   obtain ⟨v, hv⟩ := chr0_tot t hs a h0 c 9 k 0 rfl (by decide) (by omega)
   have hv' : wire_character.f k t a = some v := hv
   obtain rfl : v = n := Ev.unique (Ev.of (wire_character.mono _ _) hv') hn1
   rw [hv', Option.bind_some]
   split
   ·exact ⟨_, rfl⟩
   ·rw [U.w64 (by omega) (by omega)]
    exact utf_tot d k (a + v) (by omega) (by omega) (by omega) (by omega)
  ·rw [if_neg c]; exact ⟨_, rfl⟩
end Cpl
namespace Cpl
abbrev fuel : Nat := 1073741824
theorem whole_tot (t : ByteArray) : ∃ r, Js.whole t fuel = some r := by
 unfold Js.whole
 by_cases g : (t.size : Int) > 67108864
 ·rw [if_pos g]; exact ⟨_, rfl⟩
 ·rw [if_neg g]
  have hs : t.size ≤ 67108864 := by omega
  obtain ⟨u, hu⟩ := utf_tot t hs t.size fuel 0 (by omega) (by decide) (by omega) (by unfold fuel; omega)
  have hu' : wire_Utf8.f fuel t = some u := hu
  rw [hu']
  dsimp only
  split
  ·exact ⟨_, rfl⟩
  ·obtain ⟨r, hr⟩ := (tot t hs fuel).1 ⟨0, 0, ⟨#[]⟩⟩ ⟨by decide, by dsimp only; omega, by decide, by decide⟩ (by dsimp only; unfold fuel; omega)
   rw [hr]
   rcases r with x | s
   ·exact ⟨_, rfl⟩
   ·dsimp only
    split <;> exact ⟨_, rfl⟩
def told : JR ByteArray → ByteArray × Int × Int
 | .ok o => (o, 0, 0)
 | .error x => (⟨#[]⟩, x.1, x.2)
theorem doc_model (t : ByteArray) (hz : t.size ≤ 140737488355328) (k : Nat) (r : JR ByteArray) (h : Js.whole t k = some r) : (∃ j, Compact.f j t = some (told r)) ∧ ∀ o, r = .ok o → o.size ≠ 0 := by
 unfold Js.whole at h
 by_cases g : (t.size : Int) > 67108864
 ·rw [if_pos g] at h
  obtain rfl := Option.some.inj h
  refine ⟨⟨0, ?_⟩, fun o ho => by cases ho⟩
  unfold Compact.f Read.f
  rw [if_pos g]
  rfl
 ·rw [if_neg g] at h
  have hs : t.size ≤ 67108864 := by omega
  obtain ⟨u0, hu1, hu2, hu3⟩ := Utf8.utf8_both t hz
  cases hw : wire_Utf8.f k t with
  | none => rw [hw] at h; cases h
  | some u =>
   rw [hw] at h
   obtain rfl : u = u0 := Ev.unique (Ev.of (wire_Utf8.mono _) hw) hu1
   dsimp only at h
   suffices hh : Ev (fun j => Compact.f j t) (told r) ∧ ∀ o, r = .ok o → o.size ≠ 0 from ⟨Ev.rounds hh.1, hh.2⟩
   have rd : ∀ {q : S67 × Int × Int} {w : ByteArray × Int × Int}, Ev (fun j => Read.f j t) q → Ev (fun j => if q.2.1 = 0 then (tight.f j [] t q.1).bind fun l => some (strOfNums l, 0, 0) else some (⟨#[]⟩, q.2.1, q.2.2)) w → Ev (fun j => Compact.f j t) w := fun hq hw => Ev.bind hq hw
   have rd0 : ∀ {q : S67 × Int × Int}, Ev (fun j => (U_Utf8.f j t).bind fun u => if u ≥ 0 then some (z67, 125, u) else (T_value.f j t 0 0 0 0).bind fun v =>
     if v.2.2.2.2.2.2.2.2.1 = 0 then
      (T_next.f j v.2.2.2.2.2.2.1 v.2.2.2.2.2.2.2.1 v.2.2.2.2.2.2.2.2.1 v.2.2.2.2.2.2.2.2.2).bind fun b =>
       if b.1 ≠ 0 ∨ b.2.2.1 < (t.size : Int) then (T_fail.f b.2.1 b.2.2.1 b.2.2.2.1 b.2.2.2.2 120 b.2.2.1).bind fun q => some (fin ⟨v.1, v.2.1, v.2.2.1, v.2.2.2.1, v.2.2.2.2.1, v.2.2.2.2.2.1⟩ q.2.2.1 q.2.2.2)
       else some (fin ⟨v.1, v.2.1, v.2.2.1, v.2.2.2.1, v.2.2.2.2.1, v.2.2.2.2.2.1⟩ b.2.2.2.1 b.2.2.2.2)
     else some (z67, v.2.2.2.2.2.2.2.2.1, v.2.2.2.2.2.2.2.2.2)) q → Ev (fun j => Read.f j t) q := by
    intro q hq
    refine Ev.congr (fun j => ?_) hq
    unfold Read.f
    rw [if_neg g]
   by_cases gu : u ≥ 0
   ·rw [if_pos gu] at h
    obtain rfl := Option.some.inj h
    refine ⟨rd (rd0 (Ev.bind hu2 (Ev.pos gu (Ev.now _)))) ?_, fun o ho => by cases ho⟩
    exact Ev.neg (show ¬ (125 : Int) = 0 by decide) (Ev.now _)
   ·rw [if_neg gu] at h
    cases hv : Js.value t k ⟨0, 0, ⟨#[]⟩⟩ with
    | none => rw [hv] at h; cases h
    | some rv =>
     rw [hv] at h
     obtain ⟨n, a', e', p', hev, hrel⟩ := (all_steps t hs k).1 ⟨0, 0, ⟨#[]⟩⟩ 0 rv ⟨by decide, by dsimp only; omega, by decide, by decide⟩ hv
     dsimp only at hev
     rcases rv with x | s
     ·obtain rfl := Option.some.inj h
      obtain ⟨rfl, rfl, hx⟩ := hrel
      refine ⟨rd (rd0 (Ev.bind hu2 (Ev.neg gu (Ev.bind hev (Ev.neg hx (Ev.now _)))))) ?_, fun o ho => by cases ho⟩
      exact Ev.neg hx (Ev.now _)
     ·obtain ⟨rfl, rfl, rfl, hop, hlt, hle, X, hout, hXs, hX0, hT⟩ := hrel
      dsimp only at h hlt hout hXs
      have q0 := skip_ge hle
      have q1 := skip_le hle
      have hn := next_ev t hs 0 0 s.at_ (by omega) hle
      by_cases c : Js.skip t s.at_ < (t.size : Int)
      ·rw [if_pos c] at h
       obtain rfl := Option.some.inj h
       refine ⟨rd (q := (z67, 120, Js.skip t s.at_)) (rd0 (Ev.bind hu2 (Ev.neg gu (Ev.bind hev (Ev.pos rfl (Ev.bind hn ?_)))))) ?_, fun o ho => by cases ho⟩
       ·refine Ev.pos (Or.inr c) ?_
        dsimp only [tup]
        rw [fail0]
        exact Ev.now _
       ·exact Ev.neg (show ¬ (120 : Int) = 0 by decide) (Ev.now _)
      ·rw [if_neg c] at h
       obtain rfl := Option.some.inj h
       have en := nx_end c
       refine ⟨rd (q := (n, 0, 0)) (rd0 (Ev.bind hu2 (Ev.neg gu (Ev.bind hev (Ev.pos rfl (Ev.bind hn ?_)))))) ?_, ?_⟩
       ·refine Ev.neg (by rw [en]; dsimp only; omega) ?_
        dsimp only [tup]
        rw [eta67]
        exact Ev.now _
       ·refine Ev.pos rfl (Ev.bind (hT [] (by simp; omega)) ?_)
        rw [List.nil_append, strOfNums_bytesOf]
        have : s.out = X := by rw [hout]; exact ByteArray.empty_append
        rw [← this]
        exact Ev.now _
       ·intro o ho
        injection ho with ho
        subst ho
        rw [hout, ByteArray.size_append]; omega
set_option maxRecDepth 1000000 in
theorem fixed : Js.whole ⟨#[32, 91, 32, 49, 32, 44, 32, 123, 34, 97, 34, 32, 58, 32, 110, 117, 108, 108, 32, 125, 32, 93, 32]⟩ 100 = some (.ok ⟨#[91, 49, 44, 123, 34, 97, 34, 58, 110, 117, 108, 108, 125, 93]⟩) := by kernel_rfl
end Cpl
end Go.Proofs.YtbpiahpkbapijaaDoor.J
end
section
namespace Go.Proofs.YtbpiahpkbapijaaDoor.J
open Go.RowKit Go.Proofs.YtbpiahpkbapijaaDoorW.PrintWords Go.Proofs.YtbpiahpkbapijaaDoorW.PrintLast Go.Proofs.YtbpiahpkbapijaaDoorW.PrintMore
set_option linter.unusedVariables false
set_option linter.unusedSimpArgs false
theorem eqA35 (d : Nat) (w : World) (x0 y0 : Int) (x1 y1 : Int) (x2 y2 : Int) (x3 y3 : ByteArray) :
  (Op.equalIn (d + 2) 35 (.agg #[.int .i64 x0, .int .i64 x1, .int .i64 x2, .string x3]) (.agg #[.int .i64 y0, .int .i64 y1, .int .i64 y2, .string y3])).run Tryd.prog w = .ok (x0 == y0 && (x1 == y1 && (x2 == y2 && (x3.toList == y3.toList)))) w := by
 refine eqA_of Tryd.underlying35 (by kernel_rfl) ?_
 refine eqf_cons (by rfl) (by go_simp; rfl) (by go_simp; rfl) (by go_simp) ?_
 refine eqf_cons (by rfl) (by go_simp; rfl) (by go_simp; rfl) (by go_simp) ?_
 refine eqf_cons (by rfl) (by go_simp; rfl) (by go_simp; rfl) (by go_simp) ?_
 exact eqf_last (by rfl) (by go_simp; rfl) (by go_simp; rfl) (by go_simp)
attribute [local go_sem high] eqA35
def law.f (_k : Nat) (t : ByteArray) : Option Bool := if t.size ≤ 140737488355328 then some true else none
set_option maxHeartbeats 4000000 in
set_option maxRecDepth 100000 in
theorem law.calls (k : Nat) (t : ByteArray) (b : Bool) (W : World) (h : law.f k t = some b) (hL : LaidW W) :
  Calls Tryd.prog 4 #[.string t] W fun e w' => e = .returned (.bool b) ∧ Below W.heap.size W w' := by
 unfold law.f at h
 by_cases hz : t.size ≤ 140737488355328
 ·rw [if_pos hz] at h
  obtain rfl := Option.some.inj h
  obtain ⟨r, hr⟩ := Cpl.whole_tot t
  obtain ⟨⟨j, hj⟩, hne⟩ := Cpl.doc_model t hz _ r hr
  have HC := yM (compact_calls t Cpl.fuel (by unfold Cpl.fuel; omega) r hr hne W hL)
  have HD := yM (fun w => doc_calls j t _ hj w)
  have HF := yM (fun w hl => compact_calls _ 100 (by omega) _ Cpl.fixed (fun o ho => by injection ho with ho; subst ho; decide) w hl)
  have HL := yM hL
  clear hr hj hne hL h hz
  rcases r with ⟨x, y⟩ | o
  ·go_enter Tryd.func4, Tryd.ntmps4
   go_upto_region 2 with (go_at_call 10; refine HC.out.mono ?_; rintro e w1 ⟨he, hb⟩; dsimp only at he; subst he; have HB1 := yM hb; clear hb)
   obtain ⟨w2, hw2⟩ : ∃ w2, w2 = w1.alloc (.cells #[.int .i64 x, .int .i64 0, .int .i64 y, .string ⟨#[]⟩] 35) := ⟨_, rfl⟩
   have hbx : w2.heap[w1.heap.size]? = some (.cells #[.int .i64 x, .int .i64 0, .int .i64 y, .string ⟨#[]⟩] 35 (0, 0)) := hw2 ▸ blk_new w1 _
   have HB2 := yM (show Below W.heap.size W w2 from hw2 ▸ HB1.out.trans ((bel (w := w1)).mono HB1.out.size))
   have HX2 := yM hbx
   rw [← hw2]
   obtain ⟨b1, hb1⟩ : ∃ b1, b1 = w1.heap.size := ⟨_, rfl⟩
   rw [← hb1] at hbx HX2 ⊢
   have hlt : b1 < w2.heap.size := (Array.getElem?_eq_some_iff.1 hbx).1
   have HLT := yM hlt
   clear hw2 hb1 HB1 HC hbx hlt
   go_upto_region 3 with (go_at_call 11; refine (HD.out _).mono ?_; rintro e w3 ⟨he, hb⟩; dsimp only [Cpl.told] at he; subst he; have HB3 := yM hb; clear hb)
   have HX3 := yM ((HB3.out.block b1 HLT.out).trans HX2.out)
   have HBW3 := yM (HB2.out.trans (HB3.out.mono HB2.out.size))
   have HLT3 := yM (Nat.lt_of_lt_of_le HLT.out HB3.out.size)
   clear HX2 HB2 HB3 HLT HD
   go_upto_region 4 with (go_at_call 10; refine (HF.out _ (LaidW.below HL.out HBW3.out)).mono ?_; rintro e w4 ⟨he, hb⟩; dsimp only at he; subst he; have HB4 := yM hb; clear hb)
   obtain ⟨w5, hw5⟩ : ∃ w5, w5 = w4.alloc (.cells #[.int .i64 0, .int .i64 0, .int .i64 0, .string ⟨#[]⟩] 35) := ⟨_, rfl⟩
   have hbx : w5.heap[w4.heap.size]? = some (.cells #[.int .i64 0, .int .i64 0, .int .i64 0, .string ⟨#[]⟩] 35 (0, 0)) := hw5 ▸ blk_new w4 _
   have HBW5 := yM (show Below W.heap.size W w5 from hw5 ▸ HBW3.out.trans ((HB4.out.mono HBW3.out.size).trans ((bel (w := w4)).mono (Nat.le_trans HBW3.out.size HB4.out.size))))
   have HX5 := yM (show w5.heap[b1]? = some (.cells #[.int .i64 x, .int .i64 0, .int .i64 y, .string ⟨#[]⟩] 35 (0, 0)) from hw5 ▸ ((bel (w := w4)).block b1 (Nat.lt_of_lt_of_le HLT3.out HB4.out.size)).trans ((HB4.out.block b1 HLT3.out).trans HX3.out))
   rw [← hw5]
   obtain ⟨b2, hb2⟩ : ∃ b2, b2 = w4.heap.size := ⟨_, rfl⟩
   rw [← hb2] at hbx ⊢
   clear hw5 hb2 HB4 HBW3 HLT3 HX3 HF HL
   obtain ⟨x0, x1, x2, x3, xf, xl⟩ := c4 HX5.out
   obtain ⟨y0, y1, y2, y3, yf, yl⟩ := c4 hbx
   go_wp2
   exact bodyPost_ret (v := .bool true) (by simp [results, Tryd.results4, go_sem]) rfl ⟨rfl, HBW5.out⟩
  ·go_enter Tryd.func4, Tryd.ntmps4
   go_upto_region 2 with (go_at_call 10; refine HC.out.mono ?_; rintro e w1 ⟨he, hb⟩; dsimp only at he; subst he; have HB1 := yM hb; clear hb)
   obtain ⟨w2, hw2⟩ : ∃ w2, w2 = w1.alloc (.cells #[.int .i64 0, .int .i64 0, .int .i64 0, .string ⟨#[]⟩] 35) := ⟨_, rfl⟩
   have hbx : w2.heap[w1.heap.size]? = some (.cells #[.int .i64 0, .int .i64 0, .int .i64 0, .string ⟨#[]⟩] 35 (0, 0)) := hw2 ▸ blk_new w1 _
   have HB2 := yM (show Below W.heap.size W w2 from hw2 ▸ HB1.out.trans ((bel (w := w1)).mono HB1.out.size))
   have HX2 := yM hbx
   rw [← hw2]
   obtain ⟨b1, hb1⟩ : ∃ b1, b1 = w1.heap.size := ⟨_, rfl⟩
   rw [← hb1] at hbx HX2 ⊢
   have hlt : b1 < w2.heap.size := (Array.getElem?_eq_some_iff.1 hbx).1
   have HLT := yM hlt
   clear hw2 hb1 HB1 HC hbx hlt
   go_upto_region 3 with (go_at_call 11; refine (HD.out _).mono ?_; rintro e w3 ⟨he, hb⟩; dsimp only [Cpl.told] at he; subst he; have HB3 := yM hb; clear hb)
   have HX3 := yM ((HB3.out.block b1 HLT.out).trans HX2.out)
   have HBW3 := yM (HB2.out.trans (HB3.out.mono HB2.out.size))
   have HLT3 := yM (Nat.lt_of_lt_of_le HLT.out HB3.out.size)
   clear HX2 HB2 HB3 HLT HD
   go_upto_region 4 with (go_at_call 10; refine (HF.out _ (LaidW.below HL.out HBW3.out)).mono ?_; rintro e w4 ⟨he, hb⟩; dsimp only at he; subst he; have HB4 := yM hb; clear hb)
   obtain ⟨w5, hw5⟩ : ∃ w5, w5 = w4.alloc (.cells #[.int .i64 0, .int .i64 0, .int .i64 0, .string ⟨#[]⟩] 35) := ⟨_, rfl⟩
   have hbx : w5.heap[w4.heap.size]? = some (.cells #[.int .i64 0, .int .i64 0, .int .i64 0, .string ⟨#[]⟩] 35 (0, 0)) := hw5 ▸ blk_new w4 _
   have HBW5 := yM (show Below W.heap.size W w5 from hw5 ▸ HBW3.out.trans ((HB4.out.mono HBW3.out.size).trans ((bel (w := w4)).mono (Nat.le_trans HBW3.out.size HB4.out.size))))
   have HX5 := yM (show w5.heap[b1]? = some (.cells #[.int .i64 0, .int .i64 0, .int .i64 0, .string ⟨#[]⟩] 35 (0, 0)) from hw5 ▸ ((bel (w := w4)).block b1 (Nat.lt_of_lt_of_le HLT3.out HB4.out.size)).trans ((HB4.out.block b1 HLT3.out).trans HX3.out))
   rw [← hw5]
   obtain ⟨b2, hb2⟩ : ∃ b2, b2 = w4.heap.size := ⟨_, rfl⟩
   rw [← hb2] at hbx ⊢
   clear hw5 hb2 HB4 HBW3 HLT3 HX3 HF HL
   obtain ⟨x0, x1, x2, x3, xf, xl⟩ := c4 HX5.out
   obtain ⟨y0, y1, y2, y3, yf, yl⟩ := c4 hbx
   go_wp2
   exact bodyPost_ret (v := .bool true) (by simp [results, Tryd.results4, go_sem]) rfl ⟨rfl, HBW5.out⟩
 ·rw [if_neg hz] at h; cases h
theorem law_true (t : ByteArray) (h : t.size ≤ 140737488355328) : ∃ k, law.f k t = some true := ⟨0, if_pos h⟩
end Go.Proofs.YtbpiahpkbapijaaDoor.J
end
section
namespace Go.Proofs.YtbpiahpkbapijaaDoor.Pure
open Go.Proofs.YtbpiahpkbapijaaDoor.J
theorem JsonCompacts (t : ByteArray) (h : t.size ≤ 140737488355328) : ∃ k, law.f k t = some true := law_true t h
end Go.Proofs.YtbpiahpkbapijaaDoor.Pure
end
section
namespace Go.Proofs.YtbpiahpkbapijaaDoor.LaidOf
open Go.ChangeShapes Go.WideShapes Go.RowKit Go.Proofs.YtbpiahpkbapijaaDoor.J
set_option maxRecDepth 100000 in
theorem five {H : Type} {enc : TypeId × Value → H} {w : World} {base : Nat} {spare : Nat → Bool} {held : Bool} {fuel : Nat} {cs : List Value} {ps : List MemPlace} {a b c d e : Int}
  (h : DataW.trod enc Tryd.prog w base spare held fuel 85 cs = some ((.agg [.lit (.int .u8 a), .lit (.int .u8 b), .lit (.int .u8 c), .lit (.int .u8 d), .lit (.int .i64 e)] : DataW H), ps)) :
  cs = [.int .u8 a, .int .u8 b, .int .u8 c, .int .u8 d, .int .i64 e] := by
 obtain ⟨xs, n, _, hx, hl, hlen, hf⟩ := DataW.trod_struct Tryd.underlying85 h
 have hl5 : cs.length = 5 := hl.trans (by kernel_rfl)
 have hxs : xs.map (·.1) = [.lit (.int .u8 a), .lit (.int .u8 b), .lit (.int .u8 c), .lit (.int .u8 d), .lit (.int .i64 e)] := (DataW.agg.inj (Prod.mk.inj hx).1).symm
 have c5 : Tryd.prog.cellsOf 5 = 1 := by kernel_rfl
 have c3 : Tryd.prog.cellsOf 3 = 1 := by kernel_rfl
 clear h hl hx
 match cs, hl5, hf with
 | [v0, v1, v2, v3, v4], _, hf =>
  match xs, hlen, hxs, hf with
  | [y0, y1, y2, y3, y4], _, hxs, hf =>
   simp only [List.map_cons, List.map_nil, List.cons.injEq, and_true] at hxs
   obtain ⟨h0, h1, h2, h3, h4⟩ := hxs
   have g0 : DataW.trod enc Tryd.prog w base spare held n 5 (([v0, v1, v2, v3, v4].drop 0).take (Tryd.prog.cellsOf 5)) = some y0 := hf 0 _ rfl
   rw [c5] at g0
   replace g0 : DataW.trod enc Tryd.prog w base spare held n 5 [v0] = some y0 := g0
   have g1 : DataW.trod enc Tryd.prog w base spare held n 5 (([v0, v1, v2, v3, v4].drop 1).take (Tryd.prog.cellsOf 5)) = some y1 := hf 1 _ rfl
   rw [c5] at g1
   replace g1 : DataW.trod enc Tryd.prog w base spare held n 5 [v1] = some y1 := g1
   have g2 : DataW.trod enc Tryd.prog w base spare held n 5 (([v0, v1, v2, v3, v4].drop 2).take (Tryd.prog.cellsOf 5)) = some y2 := hf 2 _ rfl
   rw [c5] at g2
   replace g2 : DataW.trod enc Tryd.prog w base spare held n 5 [v2] = some y2 := g2
   have g3 : DataW.trod enc Tryd.prog w base spare held n 5 (([v0, v1, v2, v3, v4].drop 3).take (Tryd.prog.cellsOf 5)) = some y3 := hf 3 _ rfl
   rw [c5] at g3
   replace g3 : DataW.trod enc Tryd.prog w base spare held n 5 [v3] = some y3 := g3
   have g4 : DataW.trod enc Tryd.prog w base spare held n 3 (([v0, v1, v2, v3, v4].drop 4).take (Tryd.prog.cellsOf 3)) = some y4 := hf 4 _ rfl
   rw [c3] at g4
   replace g4 : DataW.trod enc Tryd.prog w base spare held n 3 [v4] = some y4 := g4
   obtain ⟨z0, e0, r0, _⟩ := DataW.trod_int Tryd.underlying5 g0
   obtain ⟨z1, e1, r1, _⟩ := DataW.trod_int Tryd.underlying5 g1
   obtain ⟨z2, e2, r2, _⟩ := DataW.trod_int Tryd.underlying5 g2
   obtain ⟨z3, e3, r3, _⟩ := DataW.trod_int Tryd.underlying5 g3
   obtain ⟨z4, e4, r4, _⟩ := DataW.trod_int Tryd.underlying3 g4
   rw [r0] at h0; rw [r1] at h1; rw [r2] at h2; rw [r3] at h3; rw [r4] at h4
   simp only [DataW.lit.injEq, Lit.int.injEq, true_and] at h0 h1 h2 h3 h4
   subst h0 h1 h2 h3 h4
   simp only [List.cons.injEq, and_true] at e0 e1 e2 e3 e4
   rw [e0, e1, e2, e3, e4]
theorem chunks_eq {α : Type} (l r : List α) (hl : l.length = 45) (hr : r.length = 45) (h : ∀ i, i < 9 → (l.drop (i * 5)).take 5 = (r.drop (i * 5)).take 5) : l = r := by
 apply List.ext_getElem?
 intro j
 by_cases hj : j < 45
 ·have := congrArg (fun x => x[j % 5]?) (h (j / 5) (by omega))
  simp only [List.getElem?_take, List.getElem?_drop] at this
  rw [if_pos (by omega), if_pos (by omega), show j / 5 * 5 + j % 5 = j by omega] at this
  exact this
 ·rw [List.getElem?_eq_none (by omega), List.getElem?_eq_none (by omega)]
set_option maxRecDepth 100000 in
theorem laid_block {W : World} (h : laidMetH Tryd.prog [("sigil/wire.rows", Rows.laid_sigil_wire_rows)] W) : ∃ t fr, W.heap[0]? = some (.cells RowCells t fr) := by
 rw [MakeChecks.laidMetH_plain _ _ _ (by kernel_rfl)] at h
 obtain ⟨ps, ⟨g, t, cs, fuel, p, q, hg, ht, hv, hd, _, _⟩, _, _⟩ := h
 obtain rfl := Option.some.inj ((show Tryd.prog.globalNamed "sigil/wire.rows" = some 0 by kernel_rfl).symm.trans hg)
 obtain rfl := Option.some.inj ((show (Tryd.prog.globals[0]?).map (·.type) = some 86 by kernel_rfl).symm.trans ht)
 obtain ⟨xs, m, _, ex, hl, hn, hel⟩ := DataW.trod_array Tryd.underlying86 hd
 have hlc : cs.toList.length = 45 := hl.trans (by kernel_rfl)
 have hxs := (DataW.agg.inj (Prod.mk.inj ex).1).symm
 have c85 : Tryd.prog.cellsOf 85 = 5 := by kernel_rfl
 have row : ∀ i, i < 9 → ∀ a b c d e, (xs.map (·.1))[i]? = some (.agg [.lit (.int .u8 a), .lit (.int .u8 b), .lit (.int .u8 c), .lit (.int .u8 d), .lit (.int .i64 e)]) → (cs.toList.drop (i * 5)).take 5 = [.int .u8 a, .int .u8 b, .int .u8 c, .int .u8 d, .int .i64 e] := by
  intro i hi a b c d e hx
  have hE := hel i hi
  rw [c85] at hE
  rw [List.getElem?_map] at hx
  obtain ⟨y, hy, hy2⟩ := Option.map_eq_some_iff.1 hx
  rw [hy] at hE
  obtain ⟨y1, y2⟩ := y
  subst hy2
  exact five hE
 have hcs : cs.toList = RowCells.toList := by
  refine chunks_eq _ _ hlc (by kernel_rfl) (fun i hi => ?_)
  match i, hi with
  | 0, _ => exact row 0 (by omega) _ _ _ _ _ (by rw [hxs]; rfl)
  | 1, _ => exact row 1 (by omega) _ _ _ _ _ (by rw [hxs]; rfl)
  | 2, _ => exact row 2 (by omega) _ _ _ _ _ (by rw [hxs]; rfl)
  | 3, _ => exact row 3 (by omega) _ _ _ _ _ (by rw [hxs]; rfl)
  | 4, _ => exact row 4 (by omega) _ _ _ _ _ (by rw [hxs]; rfl)
  | 5, _ => exact row 5 (by omega) _ _ _ _ _ (by rw [hxs]; rfl)
  | 6, _ => exact row 6 (by omega) _ _ _ _ _ (by rw [hxs]; rfl)
  | 7, _ => exact row 7 (by omega) _ _ _ _ _ (by rw [hxs]; rfl)
  | 8, _ => exact row 8 (by omega) _ _ _ _ _ (by rw [hxs]; rfl)
 have hcs' : cs = RowCells := by
  have := congrArg List.toArray hcs
  simpa using this
 unfold World.var? at hv
 rw [hg] at hv
 simp only [Option.bind_some] at hv
 cases hb : W.heap[0]? with
 | none => rw [hb] at hv; cases hv
 | some o =>
  rw [hb] at hv
  cases o with
  | cells c t fr =>
   simp only [Option.some.injEq] at hv
   rw [hv, hcs']
   exact ⟨t, fr, rfl⟩
  | _ => cases hv
end Go.Proofs.YtbpiahpkbapijaaDoor.LaidOf
end
section
namespace Go.Proofs.YtbpiahpkbapijaaDoor.jsonCompacts
open Go.ChangeShapes Go.WideShapes Go.ChangeAt Go.RowKit Go.Proofs.YtbpiahpkbapijaaDoorW.PrintWords
open Go.ChangeMaps (open_string shut_string)
theorem own : ownKnob Tryd.prog.godebug = none := by kernel_rfl
set_option maxRecDepth 100000 in
theorem contract (H : Type) (enc : TypeId × Value → H) (W : World) (base : Nat) (args : Array Value) (ds gs : List (DataW H)) (before : List MemPlace)
  (hval0 : ∀ (j : Nat) t v, Tryd.f4.params[j]? = some t → args[j]? = some v → Value.okWide Tryd.prog W .any base t v)
  (hW : DataW.Whole enc Tryd.prog Tryd.f4.params.toList Rows.jsonCompactsSpec.vars false W args.toList ds gs before)
  (hsz0 : (DataW.weightsEach Tryd.prog (Tryd.f4.params.toList ++ Rows.jsonCompactsSpec.plain.varTypes Tryd.prog) (ds ++ gs)).all (· ≤ reachBytes) = true)
  (hL0 : laidMetH Tryd.prog Rows.jsonCompactsRow.laid W) (hsh : W.ShapedOpen Tryd.prog) :
  Calls Tryd.prog 4 args W fun e W' => ∃ v, e = .returned v ∧ Rows.jsonCompactsSpec.post enc Tryd.prog Tryd.f4 false true false false W args v W' := by
 have hsz : (DataW.weightsEach Tryd.prog (Tryd.f4.params.toList ++ Rows.jsonCompactsSpec.plain.varTypes Tryd.prog) (ds ++ gs)).all (· ≤ reachBytes) = true := hsz0
 have hval : ∀ (j : Nat) t v, Tryd.f4.params[j]? = some t → args[j]? = some v → Value.okWide Tryd.prog W .any base t v := hval0
 have hL : J.LaidW W := ⟨LaidOf.laid_block hL0, Tryd.laysM143.s1_3 W hsh⟩
 have hW' := hW
 obtain ⟨p, q, hA0, hV, rfl, hfz, hnd⟩ := hW
 have hA : DataW.TrodAll enc Tryd.prog W 0 (fun _ => true) true Tryd.f4.params.toList args.toList ds p := hA0
 rw [Tryd.params4] at hA hval hsz
 obtain ⟨v0, vs0, d0, ds0, p0, q0, hargs, rfl, rfl, h0, r0⟩ := trodAll_cons hA
 obtain ⟨rfl, rfl, rfl⟩ := trodAll_nil r0
 obtain rfl : args = #[v0] := by cases args; simp_all
 obtain ⟨rfl, rfl⟩ := trodVars_none hV
 obtain ⟨a0, rfl, rfl, rfl, y0⟩ := open_string Tryd.underlying9 (hval 0 9 v0 rfl rfl) h0
 have w0 : a0.size ≤ 140737488351232 := by
  have z := sized_string hsz (j := 0) (t := 9) rfl rfl
  rw [Array.length_toList] at z
  exact z
 clear hA0 hval0 hsz0 hsz
 obtain ⟨k, hk⟩ := Pure.JsonCompacts a0 (by omega)
 refine (J.law.calls k a0 true W  hk hL).mono fun e W' ⟨he, bel0⟩ => ?_
 have bel : Below W.heap.size W W' := bel0
 subst he
 exact ⟨_, rfl, _, _, _, [], _, [], hW', trodAll_mk1 (shut_bool Tryd.underlying4 _), (trodAll_cons_mk (shut_string Tryd.underlying9 y0) trodAll_mk0), rfl, bel.frame _, fun h => by cases h⟩
noncomputable def laidWorld (os : Os) : World :=
 { World.holding Tryd.prog os ⟨#[], #[], []⟩ with heap := (World.holding Tryd.prog os ⟨#[], #[], []⟩).heap.modify 0 fun
   | .cells _ t frozen => .cells J.RowCells t frozen
   | o => o }
theorem laid_met (os : Os) : laidMet Tryd.prog Rows.jsonCompactsRow.laid ((laidWorld os).forCall (fun _ _ => 0) ⟨#[], #[.string ByteArray.empty], []⟩).memory :=
 laidMet_of_run' 8 (by kernel_rfl) (by kernel_rfl)
theorem reads (os : Os) {H : Type} (enc : TypeId × Value → H) : ∃ places, DataW.whole enc Tryd.prog ((laidWorld os).forCall (fun _ _ => 0) ⟨#[], #[.string ByteArray.empty], []⟩).memory Tryd.f4.params.toList Rows.jsonCompactsSpec.vars false (#[.string ByteArray.empty] : Array Value).toList 8 = some ([.lit (.string [])], [], places) :=
 ⟨[], by kernel_rfl⟩
set_option maxRecDepth 100000 in
theorem lifted (os : Os) (started : os.Started) (H : Type) (enc : TypeId × Value → H) (F : Stop.Interp) :
  ReturnsInHanded {} Tryd.checked os 4 .any ((OpenSpec.ofChange Rows.jsonCompactsSpec).preRow enc Tryd.prog Tryd.f4 Rows.jsonCompactsRow.domain false Rows.jsonCompactsRow.laid) (((OpenSpec.ofChange Rows.jsonCompactsSpec).at F).post enc Tryd.prog Tryd.f4 false true false false) := by
 obtain ⟨places, hx⟩ := reads os enc
 refine returnsInHanded_of_row (C := Tryd.checked) (s := OpenSpec.ofChange Rows.jsonCompactsSpec) own started (by kernel_rfl) Tryd.func4
  (witness_row_at (enc := enc) (C := Tryd.checked) false (laidWorld os) #[.string ByteArray.empty] rfl (by kernel_rfl) (by kernel_rfl) (by kernel_rfl)
   (OpenSpec.preRow_of_cond 8 hx (by kernel_rfl) (fun k hk => by cases hk) (by kernel_rfl) (laid_met os))) ?_
 intro W base args ds gs before hval hW _ hcond hsz hL hsh _
 exact contract H enc W base args ds gs before hval hW hsz hL hsh
theorem said : Rows.JsonCompactsSaid :=
 OpenClaim.holds_of_cond 4 Tryd.f4 rfl rfl rfl rfl rfl rfl rfl ⟨rfl, rfl, rfl, rfl, rfl⟩ rfl rfl rfl rfl rfl (by kernel_rfl) Tryd.func4 (by kernel_rfl)
  (yQ (by kernel_rfl)) (by unfold Func.isWrapper; first | (rw [if_pos (by decide +kernel)]; kernel_rfl) | (rw [if_neg (by decide +kernel)]; exact ⟨rfl, rfl⟩))
  (fun os started H enc _ F => by rw [OpenClaim.pre_eq_preRow]; exact lifted os started H enc F)
set_option maxRecDepth 100000 in
theorem plain (f : FuncId) (fn : Func) (hf : Tryd.pinned.checked.prog.funcNamed "sigil/sigillaw12.JsonCompacts" = some f) (hfn : Tryd.pinned.checked.prog.funcs[f]? = some fn) :
  true = Tryd.pinned.checked.prog.looks [] ∧ ∀ (j : Nat) t, fn.params[j]? = some t → Tryd.pinned.checked.prog.wantsStandIn t = false := by
 obtain rfl : f = 4 := Option.some.inj ((show Tryd.prog.funcNamed "sigil/sigillaw12.JsonCompacts" = some 4 by kernel_rfl).symm.trans hf) |>.symm
 obtain rfl : fn = Tryd.f4 := (Option.some.inj (Tryd.func4.symm.trans hfn)).symm
 refine ⟨by kernel_rfl, fun j t ht => ?_⟩
 rw [Tryd.params4] at ht
 have ht' := Array.mem_of_getElem? ht
 simp only [List.mem_toArray, List.mem_cons, List.not_mem_nil, or_false] at ht'
 subst ht'
 exact (show Tryd.prog.wantsStandIn 9 = false by kernel_rfl)
theorem card : Rows.JsonCompactsCardSaid :=
 Claim7.holds_tied_plain_at .later [] _ _ _ _ said (fun _ h => by cases h) (by kernel_rfl) (fun _ h => by cases h) jsonCompacts_row_tie rfl ⟨rfl, rfl⟩ (by kernel_rfl) rfl plain (by kernel_rfl)
end Go.Proofs.YtbpiahpkbapijaaDoor.jsonCompacts
namespace Go.Proofs.YtbpiahpkbapijaaDoor
theorem jsonCompacts_card : Rows.JsonCompactsCardSaid := jsonCompacts.card
end Go.Proofs.YtbpiahpkbapijaaDoor
end
