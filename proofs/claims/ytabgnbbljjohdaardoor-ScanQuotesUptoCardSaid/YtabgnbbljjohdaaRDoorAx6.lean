-- THIS SESSION'S TEXT: written by plugprint.py out of the translation, with contracts proved by hand.
import Derived.Test.YtabgnbbljjohdaaRDoorAx0
import Derived.Test.YtabgnbbljjohdaaRDoorAx3
import Derived.Test.YtabgnbbljjohdaaRDoorAx4
import Derived.Test.YtabgnbbljjohdaaRDoorAx5
namespace Go.Proofs.YtabgnbbljjohdaaRDoor.A
open Go.RowKit Go.Proofs.YtabgnbbljjohdaaRDoorW.PrintWords Go.Proofs.YtabgnbbljjohdaaRDoorW.PrintLast Go.Proofs.YtabgnbbljjohdaaRDoorW.PrintMore
attribute [local go_sem] max2_int min2_int max_two min_two max_three min_three max_four min_four   -- for this text's walks alone
set_option linter.unusedVariables false
set_option linter.unusedSimpArgs false

/-! ### sigilref4_pass: function 55 -/
mutual
def sigilref4_pass.l0 : Nat → ByteArray → Int → Option (Int × Bool)
  | 0, _, _ => none
  | k + 1, x0, x1 => if x1 < (x0.size : Int) then (if (wrap64 (x1 + 2)) ≤ (x0.size : Int) then (if 0 ≤ x1 then (if x1 ≤ (wrap64 (x1 + 2)) then (sigilref4_pass.j1 k x0 x1 (x0.extract (x1 : Int).toNat ((wrap64 (x1 + 2)) : Int).toNat)) else (none)) else (none)) else (sigilref4_pass.j1 k x0 x1 (⟨#[]⟩ : ByteArray))) else (some (x1, true))
def sigilref4_pass.j1 : Nat → ByteArray → Int → ByteArray → Option (Int × Bool)
  | 0, _, _, _ => none
  | k + 1, x0, x1, x6 => if 0 ≤ x1 then (if x1 < (x0.size : Int) then ((sigilref4_blank.f (bt x0 x1)).bind fun t174 => (if t174 = true then (sigilref4_pass.l0 k x0 (wrap64 (x1 + 1))) else (if x6.toList = ([47, 47] : List UInt8) then (sigilref4_pass.l1 k x0 x1) else (if x6.toList = ([47, 42] : List UInt8) then (sigilref4_pass.l2 k x0 x1 (wrap64 (x1 + 2))) else (some (x1, true)))))) else (none)) else (none)
def sigilref4_pass.l1 : Nat → ByteArray → Int → Option (Int × Bool)
  | 0, _, _ => none
  | k + 1, x0, x1 => if x1 < (x0.size : Int) then (if 0 ≤ x1 then (if (bt x0 x1) = 10 then (sigilref4_pass.l0 k x0 x1) else (sigilref4_pass.l1 k x0 (wrap64 (x1 + 1)))) else (none)) else (sigilref4_pass.l0 k x0 x1)
def sigilref4_pass.l2 : Nat → ByteArray → Int → Int → Option (Int × Bool)
  | 0, _, _, _ => none
  | k + 1, x0, x1, x7 => if (wrap64 (x7 + 2)) ≤ (x0.size : Int) then (if 0 ≤ x7 then (if x7 ≤ (wrap64 (x7 + 2)) then (if (x0.extract (x7 : Int).toNat ((wrap64 (x7 + 2)) : Int).toNat).toList = ([42, 47] : List UInt8) then (if (wrap64 (x7 + 2)) > (x0.size : Int) then (some (x1, false)) else (sigilref4_pass.l0 k x0 (wrap64 (x7 + 2)))) else (sigilref4_pass.l2 k x0 x1 (wrap64 (x7 + 1)))) else (none)) else (none)) else (if (wrap64 (x7 + 2)) > (x0.size : Int) then (some (x1, false)) else (sigilref4_pass.l0 k x0 (wrap64 (x7 + 2))))
end
def sigilref4_pass.f (k : Nat) (a0 : ByteArray) (a1 : Int) : Option (Int × Bool) := sigilref4_pass.l0 k a0 a1
theorem sigilref4_pass.mono_l : ∀ k, (∀ y0 y1, LeO (sigilref4_pass.l0 k y0 y1) (sigilref4_pass.l0 (k + 1) y0 y1)) ∧ (∀ y0 y1 y2, LeO (sigilref4_pass.j1 k y0 y1 y2) (sigilref4_pass.j1 (k + 1) y0 y1 y2)) ∧ (∀ y0 y1, LeO (sigilref4_pass.l1 k y0 y1) (sigilref4_pass.l1 (k + 1) y0 y1)) ∧ (∀ y0 y1 y2, LeO (sigilref4_pass.l2 k y0 y1 y2) (sigilref4_pass.l2 (k + 1) y0 y1 y2))
  | 0 => ⟨fun _ _ r h => by simp [sigilref4_pass.l0] at h, fun _ _ _ r h => by simp [sigilref4_pass.j1] at h, fun _ _ r h => by simp [sigilref4_pass.l1] at h, fun _ _ _ r h => by simp [sigilref4_pass.l2] at h⟩
  | k + 1 => by
    obtain ⟨ih0, ih1, ih2, ih3⟩ := sigilref4_pass.mono_l k
    refine ⟨?_, ?_, ?_, ?_⟩
    · intro y0 y1
      unfold sigilref4_pass.l0
      repeat' first
      | (with_reducible exact ih0 _ _)
      | (with_reducible exact ih1 _ _ _)
      | (with_reducible exact ih2 _ _)
      | (with_reducible exact ih3 _ _ _)
      | (with_reducible exact LeO.refl _)
      | (with_reducible exact LeO.none _)
      | (with_reducible refine LeO.ite ?_ ?_)
      | (with_reducible refine LeO.bind ?_ (fun _ => ?_))
      | exact ih0 _ _
      | exact ih1 _ _ _
      | exact ih2 _ _
      | exact ih3 _ _ _
      | exact LeO.none _
      | refine LeO.ite ?_ ?_
      | refine LeO.bind ?_ (fun _ => ?_)
    · intro y0 y1 y2
      unfold sigilref4_pass.j1
      repeat' first
      | (with_reducible exact ih0 _ _)
      | (with_reducible exact ih1 _ _ _)
      | (with_reducible exact ih2 _ _)
      | (with_reducible exact ih3 _ _ _)
      | (with_reducible exact LeO.refl _)
      | (with_reducible exact LeO.none _)
      | (with_reducible refine LeO.ite ?_ ?_)
      | (with_reducible refine LeO.bind ?_ (fun _ => ?_))
      | exact ih0 _ _
      | exact ih1 _ _ _
      | exact ih2 _ _
      | exact ih3 _ _ _
      | exact LeO.none _
      | refine LeO.ite ?_ ?_
      | refine LeO.bind ?_ (fun _ => ?_)
    · intro y0 y1
      unfold sigilref4_pass.l1
      repeat' first
      | (with_reducible exact ih0 _ _)
      | (with_reducible exact ih1 _ _ _)
      | (with_reducible exact ih2 _ _)
      | (with_reducible exact ih3 _ _ _)
      | (with_reducible exact LeO.refl _)
      | (with_reducible exact LeO.none _)
      | (with_reducible refine LeO.ite ?_ ?_)
      | (with_reducible refine LeO.bind ?_ (fun _ => ?_))
      | exact ih0 _ _
      | exact ih1 _ _ _
      | exact ih2 _ _
      | exact ih3 _ _ _
      | exact LeO.none _
      | refine LeO.ite ?_ ?_
      | refine LeO.bind ?_ (fun _ => ?_)
    · intro y0 y1 y2
      unfold sigilref4_pass.l2
      repeat' first
      | (with_reducible exact ih0 _ _)
      | (with_reducible exact ih1 _ _ _)
      | (with_reducible exact ih2 _ _)
      | (with_reducible exact ih3 _ _ _)
      | (with_reducible exact LeO.refl _)
      | (with_reducible exact LeO.none _)
      | (with_reducible refine LeO.ite ?_ ?_)
      | (with_reducible refine LeO.bind ?_ (fun _ => ?_))
      | exact ih0 _ _
      | exact ih1 _ _ _
      | exact ih2 _ _
      | exact ih3 _ _ _
      | exact LeO.none _
      | refine LeO.ite ?_ ?_
      | refine LeO.bind ?_ (fun _ => ?_)
theorem sigilref4_pass.mono : ∀ a0 a1 k, LeO (sigilref4_pass.f k a0 a1) (sigilref4_pass.f (k + 1) a0 a1) := by
  intro a0 a1 k
  obtain ⟨ih0, ih1, ih2, ih3⟩ := sigilref4_pass.mono_l k
  unfold sigilref4_pass.f
  repeat' first
      | (with_reducible exact ih0 _ _)
      | (with_reducible exact ih1 _ _ _)
      | (with_reducible exact ih2 _ _)
      | (with_reducible exact ih3 _ _ _)
      | (with_reducible exact LeO.refl _)
      | (with_reducible exact LeO.none _)
      | (with_reducible refine LeO.ite ?_ ?_)
      | (with_reducible refine LeO.bind ?_ (fun _ => ?_))
      | exact ih0 _ _
      | exact ih1 _ _ _
      | exact ih2 _ _
      | exact ih3 _ _ _
      | exact LeO.none _
      | refine LeO.ite ?_ ?_
      | refine LeO.bind ?_ (fun _ => ?_)
/-! ### sigilref4_letter: function 77 -/
def sigilref4_letter.f (a0 : Int) : Option (Bool) := if a0 ≥ 65 then (if a0 ≤ 90 then (some true) else (if a0 ≥ 97 then (if a0 ≤ 122 then (some true) else (some (a0 == 95))) else (some (a0 == 95)))) else (if a0 ≥ 97 then (if a0 ≤ 122 then (some true) else (some (a0 == 95))) else (some (a0 == 95)))
/-! ### sigilref4_Digits: function 78 -/
mutual
def sigilref4_Digits.j0 : Nat → ByteArray → Int → Int → Bool → Option (Int × Bool)
  | 0, _, _, _, _ => none
  | k + 1, x0, x4, x5, x16 => if x16 = true then (if 1 < (x0.size : Int) then (if (bt x0 1) = 120 then (sigilref4_Digits.j1 k x0 16 2) else (if (bt x0 1) = 88 then (sigilref4_Digits.j1 k x0 16 2) else (sigilref4_Digits.j1 k x0 8 1))) else (none)) else (sigilref4_Digits.j1 k x0 x4 x5)
def sigilref4_Digits.j1 : Nat → ByteArray → Int → Int → Option (Int × Bool)
  | 0, _, _, _ => none
  | k + 1, x0, x4, x5 => if x5 ≥ (x0.size : Int) then (some (0, false)) else (sigilref4_Digits.l0 k x0 x4 0 x5)
def sigilref4_Digits.l0 : Nat → ByteArray → Int → Int → Int → Option (Int × Bool)
  | 0, _, _, _, _ => none
  | k + 1, x0, x4, x6, x7 => if x7 < (x0.size : Int) then (if 0 ≤ x7 then ((sigilref4_hex.f k (bt x0 x7)).bind fun t175 => (if t175 < 0 then (some (0, false)) else (if t175 ≥ x4 then (some (0, false)) else (if x4 = 0 then (none) else (if x6 > (wrap64 (Int.tdiv (wrap64 (9223372036854775807 - t175)) x4)) then (some (0, false)) else (sigilref4_Digits.l0 k x0 x4 (wrap64 ((wrap64 (x6 * x4)) + t175)) (wrap64 (x7 + 1)))))))) else (none)) else (some (x6, true))
end
def sigilref4_Digits.f (k : Nat) (a0 : ByteArray) : Option (Int × Bool) := if (a0.size : Int) > 1 then (if 0 < (a0.size : Int) then (sigilref4_Digits.j0 k a0 10 0 ((bt a0 0) == 48)) else (none)) else (sigilref4_Digits.j0 k a0 10 0 false)
theorem sigilref4_Digits.mono_l : ∀ k, (∀ y0 y1 y2 y3, LeO (sigilref4_Digits.j0 k y0 y1 y2 y3) (sigilref4_Digits.j0 (k + 1) y0 y1 y2 y3)) ∧ (∀ y0 y1 y2, LeO (sigilref4_Digits.j1 k y0 y1 y2) (sigilref4_Digits.j1 (k + 1) y0 y1 y2)) ∧ (∀ y0 y1 y2 y3, LeO (sigilref4_Digits.l0 k y0 y1 y2 y3) (sigilref4_Digits.l0 (k + 1) y0 y1 y2 y3))
  | 0 => ⟨fun _ _ _ _ r h => by simp [sigilref4_Digits.j0] at h, fun _ _ _ r h => by simp [sigilref4_Digits.j1] at h, fun _ _ _ _ r h => by simp [sigilref4_Digits.l0] at h⟩
  | k + 1 => by
    obtain ⟨ih0, ih1, ih2⟩ := sigilref4_Digits.mono_l k
    refine ⟨?_, ?_, ?_⟩
    · intro y0 y1 y2 y3
      unfold sigilref4_Digits.j0
      repeat' first
      | (with_reducible exact ih0 _ _ _ _)
      | (with_reducible exact ih1 _ _ _)
      | (with_reducible exact ih2 _ _ _ _)
      | (with_reducible exact sigilref4_hex.mono _ _)
      | (with_reducible exact LeO.refl _)
      | (with_reducible exact LeO.none _)
      | (with_reducible refine LeO.ite ?_ ?_)
      | (with_reducible refine LeO.bind ?_ (fun _ => ?_))
      | exact ih0 _ _ _ _
      | exact ih1 _ _ _
      | exact ih2 _ _ _ _
      | exact sigilref4_hex.mono _ _
      | exact LeO.none _
      | refine LeO.ite ?_ ?_
      | refine LeO.bind ?_ (fun _ => ?_)
    · intro y0 y1 y2
      unfold sigilref4_Digits.j1
      repeat' first
      | (with_reducible exact ih0 _ _ _ _)
      | (with_reducible exact ih1 _ _ _)
      | (with_reducible exact ih2 _ _ _ _)
      | (with_reducible exact sigilref4_hex.mono _ _)
      | (with_reducible exact LeO.refl _)
      | (with_reducible exact LeO.none _)
      | (with_reducible refine LeO.ite ?_ ?_)
      | (with_reducible refine LeO.bind ?_ (fun _ => ?_))
      | exact ih0 _ _ _ _
      | exact ih1 _ _ _
      | exact ih2 _ _ _ _
      | exact sigilref4_hex.mono _ _
      | exact LeO.none _
      | refine LeO.ite ?_ ?_
      | refine LeO.bind ?_ (fun _ => ?_)
    · intro y0 y1 y2 y3
      unfold sigilref4_Digits.l0
      repeat' first
      | (with_reducible exact ih0 _ _ _ _)
      | (with_reducible exact ih1 _ _ _)
      | (with_reducible exact ih2 _ _ _ _)
      | (with_reducible exact sigilref4_hex.mono _ _)
      | (with_reducible exact LeO.refl _)
      | (with_reducible exact LeO.none _)
      | (with_reducible refine LeO.ite ?_ ?_)
      | (with_reducible refine LeO.bind ?_ (fun _ => ?_))
      | exact ih0 _ _ _ _
      | exact ih1 _ _ _
      | exact ih2 _ _ _ _
      | exact sigilref4_hex.mono _ _
      | exact LeO.none _
      | refine LeO.ite ?_ ?_
      | refine LeO.bind ?_ (fun _ => ?_)
theorem sigilref4_Digits.mono : ∀ a0 k, LeO (sigilref4_Digits.f k a0) (sigilref4_Digits.f (k + 1) a0) := by
  intro a0 k
  obtain ⟨ih0, ih1, ih2⟩ := sigilref4_Digits.mono_l k
  unfold sigilref4_Digits.f
  repeat' first
      | (with_reducible exact ih0 _ _ _ _)
      | (with_reducible exact ih1 _ _ _)
      | (with_reducible exact ih2 _ _ _ _)
      | (with_reducible exact sigilref4_hex.mono _ _)
      | (with_reducible exact LeO.refl _)
      | (with_reducible exact LeO.none _)
      | (with_reducible refine LeO.ite ?_ ?_)
      | (with_reducible refine LeO.bind ?_ (fun _ => ?_))
      | exact ih0 _ _ _ _
      | exact ih1 _ _ _
      | exact ih2 _ _ _ _
      | exact sigilref4_hex.mono _ _
      | exact LeO.none _
      | refine LeO.ite ?_ ?_
      | refine LeO.bind ?_ (fun _ => ?_)
/-! ### sigilref4_sign: function 79 -/
def sigilref4_sign.l0 : Nat → Int → ByteArray → Int → Option (Bool)
  | 0, _, _, _ => none
  | k + 1, x0, x3, x4 => if x4 < (x3.size : Int) then (if 0 ≤ x4 then (if (bt x3 x4) = x0 then (some true) else (sigilref4_sign.l0 k x0 x3 (wrap64 (x4 + 1)))) else (none)) else (some false)
def sigilref4_sign.f (k : Nat) (a0 : Int) : Option (Bool) := sigilref4_sign.l0 k a0 (⟨#[123, 125, 91, 93, 40, 41, 60, 62, 59, 44, 61, 46, 45]⟩ : ByteArray) 0
theorem sigilref4_sign.mono_l : ∀ k, (∀ y0 y1 y2, LeO (sigilref4_sign.l0 k y0 y1 y2) (sigilref4_sign.l0 (k + 1) y0 y1 y2))
  | 0 => fun _ _ _ r h => by simp [sigilref4_sign.l0] at h
  | k + 1 => by
    have ih0 := sigilref4_sign.mono_l k
    · intro y0 y1 y2
      unfold sigilref4_sign.l0
      repeat' first
      | (with_reducible exact ih0 _ _ _)
      | (with_reducible exact LeO.refl _)
      | (with_reducible exact LeO.none _)
      | (with_reducible refine LeO.ite ?_ ?_)
      | (with_reducible refine LeO.bind ?_ (fun _ => ?_))
      | exact ih0 _ _ _
      | exact LeO.none _
      | refine LeO.ite ?_ ?_
      | refine LeO.bind ?_ (fun _ => ?_)
theorem sigilref4_sign.mono : ∀ a0 k, LeO (sigilref4_sign.f k a0) (sigilref4_sign.f (k + 1) a0) := by
  intro a0 k
  have ih0 := sigilref4_sign.mono_l k
  unfold sigilref4_sign.f
  repeat' first
      | (with_reducible exact ih0 _ _ _)
      | (with_reducible exact LeO.refl _)
      | (with_reducible exact LeO.none _)
      | (with_reducible refine LeO.ite ?_ ?_)
      | (with_reducible refine LeO.bind ?_ (fun _ => ?_))
      | exact ih0 _ _ _
      | exact LeO.none _
      | refine LeO.ite ?_ ?_
      | refine LeO.bind ?_ (fun _ => ?_)
/-! ### sigilref4_one: function 56 -/
mutual
def sigilref4_one.j1 : Nat → ByteArray → Int → Int → Int → Option (Int × Int × Int)
  | 0, _, _, _, _ => none
  | k + 1, x0, x1, x7, x8 => (sigilref4_letter.f x7).bind fun t178 => (if t178 = true then (some (1, x8, 0)) else ((sigilref4_digit.f x7 10).bind fun t179 => (if t179 = true then (if 0 ≤ x1 then (if x1 ≤ x8 then (if x8 ≤ (x0.size : Int) then ((sigilref4_Digits.f k (x0.extract (x1 : Int).toNat (x8 : Int).toNat)).bind fun bt180 => (if bt180.2 = true then (some (2, x8, 0)) else (some (0, 0, 41)))) else (none)) else (none)) else (none)) else (if x7 = 34 then (sigilref4_one.j2 k x0 x1 x7 true) else (sigilref4_one.j2 k x0 x1 x7 (x7 == 39))))))
def sigilref4_one.j2 : Nat → ByteArray → Int → Int → Bool → Option (Int × Int × Int)
  | 0, _, _, _, _ => none
  | k + 1, x0, x1, x7, x53 => if x53 = true then ((sigilref4_quoted.f k x0 x1).bind fun bt182 => (if bt182.2 = 0 then (some (0, 0, 42)) else (some (3, bt182.2, 0)))) else ((sigilref4_sign.f k x7).bind fun t186 => (if t186 = true then (some (4, wrap64 (x1 + 1), 0)) else (some (0, 0, 40))))
def sigilref4_one.l0 : Nat → ByteArray → Int → Int → Int → Option (Int × Int × Int)
  | 0, _, _, _, _ => none
  | k + 1, x0, x1, x7, x8 => if x8 < (x0.size : Int) then (if 0 ≤ x8 then ((sigilref4_letter.f (bt x0 x8)).bind fun t176 => (if t176 = true then (sigilref4_one.l0 k x0 x1 x7 (wrap64 (x8 + 1))) else ((sigilref4_digit.f (bt x0 x8) 10).bind fun t177 => (if t177 = true then (sigilref4_one.l0 k x0 x1 x7 (wrap64 (x8 + 1))) else (sigilref4_one.j1 k x0 x1 x7 x8))))) else (none)) else (sigilref4_one.j1 k x0 x1 x7 x8)
end
def sigilref4_one.f (k : Nat) (a0 : ByteArray) (a1 : Int) : Option (Int × Int × Int) := if 0 ≤ a1 then (if a1 < (a0.size : Int) then (sigilref4_one.l0 k a0 a1 (bt a0 a1) a1) else (none)) else (none)
theorem sigilref4_one.mono_l : ∀ k, (∀ y0 y1 y2 y3, LeO (sigilref4_one.j1 k y0 y1 y2 y3) (sigilref4_one.j1 (k + 1) y0 y1 y2 y3)) ∧ (∀ y0 y1 y2 y3, LeO (sigilref4_one.j2 k y0 y1 y2 y3) (sigilref4_one.j2 (k + 1) y0 y1 y2 y3)) ∧ (∀ y0 y1 y2 y3, LeO (sigilref4_one.l0 k y0 y1 y2 y3) (sigilref4_one.l0 (k + 1) y0 y1 y2 y3))
  | 0 => ⟨fun _ _ _ _ r h => by simp [sigilref4_one.j1] at h, fun _ _ _ _ r h => by simp [sigilref4_one.j2] at h, fun _ _ _ _ r h => by simp [sigilref4_one.l0] at h⟩
  | k + 1 => by
    obtain ⟨ih0, ih1, ih2⟩ := sigilref4_one.mono_l k
    refine ⟨?_, ?_, ?_⟩
    · intro y0 y1 y2 y3
      unfold sigilref4_one.j1
      repeat' first
      | (with_reducible exact ih0 _ _ _ _)
      | (with_reducible exact ih1 _ _ _ _)
      | (with_reducible exact ih2 _ _ _ _)
      | (with_reducible exact sigilref4_Digits.mono _ _)
      | (with_reducible exact sigilref4_quoted.mono _ _ _)
      | (with_reducible exact sigilref4_sign.mono _ _)
      | (with_reducible exact LeO.refl _)
      | (with_reducible exact LeO.none _)
      | (with_reducible refine LeO.ite ?_ ?_)
      | (with_reducible refine LeO.bind ?_ (fun _ => ?_))
      | exact ih0 _ _ _ _
      | exact ih1 _ _ _ _
      | exact ih2 _ _ _ _
      | exact sigilref4_Digits.mono _ _
      | exact sigilref4_quoted.mono _ _ _
      | exact sigilref4_sign.mono _ _
      | exact LeO.none _
      | refine LeO.ite ?_ ?_
      | refine LeO.bind ?_ (fun _ => ?_)
    · intro y0 y1 y2 y3
      unfold sigilref4_one.j2
      repeat' first
      | (with_reducible exact ih0 _ _ _ _)
      | (with_reducible exact ih1 _ _ _ _)
      | (with_reducible exact ih2 _ _ _ _)
      | (with_reducible exact sigilref4_Digits.mono _ _)
      | (with_reducible exact sigilref4_quoted.mono _ _ _)
      | (with_reducible exact sigilref4_sign.mono _ _)
      | (with_reducible exact LeO.refl _)
      | (with_reducible exact LeO.none _)
      | (with_reducible refine LeO.ite ?_ ?_)
      | (with_reducible refine LeO.bind ?_ (fun _ => ?_))
      | exact ih0 _ _ _ _
      | exact ih1 _ _ _ _
      | exact ih2 _ _ _ _
      | exact sigilref4_Digits.mono _ _
      | exact sigilref4_quoted.mono _ _ _
      | exact sigilref4_sign.mono _ _
      | exact LeO.none _
      | refine LeO.ite ?_ ?_
      | refine LeO.bind ?_ (fun _ => ?_)
    · intro y0 y1 y2 y3
      unfold sigilref4_one.l0
      repeat' first
      | (with_reducible exact ih0 _ _ _ _)
      | (with_reducible exact ih1 _ _ _ _)
      | (with_reducible exact ih2 _ _ _ _)
      | (with_reducible exact sigilref4_Digits.mono _ _)
      | (with_reducible exact sigilref4_quoted.mono _ _ _)
      | (with_reducible exact sigilref4_sign.mono _ _)
      | (with_reducible exact LeO.refl _)
      | (with_reducible exact LeO.none _)
      | (with_reducible refine LeO.ite ?_ ?_)
      | (with_reducible refine LeO.bind ?_ (fun _ => ?_))
      | exact ih0 _ _ _ _
      | exact ih1 _ _ _ _
      | exact ih2 _ _ _ _
      | exact sigilref4_Digits.mono _ _
      | exact sigilref4_quoted.mono _ _ _
      | exact sigilref4_sign.mono _ _
      | exact LeO.none _
      | refine LeO.ite ?_ ?_
      | refine LeO.bind ?_ (fun _ => ?_)
theorem sigilref4_one.mono : ∀ a0 a1 k, LeO (sigilref4_one.f k a0 a1) (sigilref4_one.f (k + 1) a0 a1) := by
  intro a0 a1 k
  obtain ⟨ih0, ih1, ih2⟩ := sigilref4_one.mono_l k
  unfold sigilref4_one.f
  repeat' first
      | (with_reducible exact ih0 _ _ _ _)
      | (with_reducible exact ih1 _ _ _ _)
      | (with_reducible exact ih2 _ _ _ _)
      | (with_reducible exact sigilref4_Digits.mono _ _)
      | (with_reducible exact sigilref4_quoted.mono _ _ _)
      | (with_reducible exact sigilref4_sign.mono _ _)
      | (with_reducible exact LeO.refl _)
      | (with_reducible exact LeO.none _)
      | (with_reducible refine LeO.ite ?_ ?_)
      | (with_reducible refine LeO.bind ?_ (fun _ => ?_))
      | exact ih0 _ _ _ _
      | exact ih1 _ _ _ _
      | exact ih2 _ _ _ _
      | exact sigilref4_Digits.mono _ _
      | exact sigilref4_quoted.mono _ _ _
      | exact sigilref4_sign.mono _ _
      | exact LeO.none _
      | refine LeO.ite ?_ ?_
      | refine LeO.bind ?_ (fun _ => ?_)

end Go.Proofs.YtabgnbbljjohdaaRDoor.A
