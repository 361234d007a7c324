-- THIS SESSION'S TEXT: written by plugprint.py out of the translation, with contracts proved by hand.
import Derived.Test.YtabgnbbljjohdaaRDoorAx0
import Derived.Test.YtabgnbbljjohdaaRDoorAx2
import Derived.Test.YtabgnbbljjohdaaRDoorAx3
namespace Go.Proofs.YtabgnbbljjohdaaRDoor.A
open Go.RowKit Go.Proofs.YtabgnbbljjohdaaRDoorW.PrintWords Go.Proofs.YtabgnbbljjohdaaRDoorW.PrintLast Go.Proofs.YtabgnbbljjohdaaRDoorW.PrintMore
attribute [local go_sem] max2_int min2_int max_two min_two max_three min_three max_four min_four   -- for this text's walks alone
set_option linter.unusedVariables false
set_option linter.unusedSimpArgs false

/-! ### sigilref4_escape: function 54 -/
mutual
def sigilref4_escape.l0 : Nat → ByteArray → Int → Int → ByteArray → List Int → Int → Option (Int × Int)
  | 0, _, _, _, _, _, _ => none
  | k + 1, x0, x1, x6, x7, x8, x9 => if x9 < (x7.size : Int) then (if 0 ≤ x9 then (if (bt x7 x9) = x6 then (if x9 < (x8.length : Int) then (some (rd x8 x9, 2)) else (none)) else (sigilref4_escape.l0 k x0 x1 x6 x7 x8 (wrap64 (x9 + 1)))) else (none)) else (if x6 = 120 then (sigilref4_escape.j1 k x0 x1 true) else (sigilref4_escape.j1 k x0 x1 (x6 == 88)))
def sigilref4_escape.j1 : Nat → ByteArray → Int → Bool → Option (Int × Int)
  | 0, _, _, _ => none
  | k + 1, x0, x1, x44 => if x44 = true then (sigilref4_escape.l1 k x0 x1 0 2) else (sigilref4_escape.l2 k x0 x1 0 1)
def sigilref4_escape.l1 : Nat → ByteArray → Int → Int → Int → Option (Int × Int)
  | 0, _, _, _, _ => none
  | k + 1, x0, x1, x10, x11 => if x11 < 4 then (if (wrap64 (x1 + x11)) < (x0.size : Int) then (if 0 ≤ (wrap64 (x1 + x11)) then ((sigilref4_hex.f k (bt x0 (wrap64 (x1 + x11)))).bind fun t125 => (if t125 ≥ 0 then ((sigilref4_hex.f k (bt x0 (wrap64 (x1 + x11)))).bind fun t126 => (sigilref4_escape.l1 k x0 x1 (wrap64 ((wrap64 (x10 * 16)) + t126)) (wrap64 (x11 + 1)))) else (if x11 = 2 then (some (0, 0)) else (some ((x10) % 256, x11))))) else (none)) else (if x11 = 2 then (some (0, 0)) else (some ((x10) % 256, x11)))) else (if x11 = 2 then (some (0, 0)) else (some ((x10) % 256, x11)))
def sigilref4_escape.l2 : Nat → ByteArray → Int → Int → Int → Option (Int × Int)
  | 0, _, _, _, _ => none
  | k + 1, x0, x1, x12, x13 => if x13 < 4 then (if (wrap64 (x1 + x13)) < (x0.size : Int) then (if 0 ≤ (wrap64 (x1 + x13)) then ((sigilref4_digit.f (bt x0 (wrap64 (x1 + x13))) 8).bind fun t127 => (if t127 = true then (sigilref4_escape.l2 k x0 x1 (wrap64 ((wrap64 (x12 * 8)) + (((bt x0 (wrap64 (x1 + x13))) - 48) % 256))) (wrap64 (x13 + 1))) else (if x13 = 1 then (some (0, 0)) else (if x12 > 255 then (some (0, 0)) else (some ((x12) % 256, x13)))))) else (none)) else (if x13 = 1 then (some (0, 0)) else (if x12 > 255 then (some (0, 0)) else (some ((x12) % 256, x13))))) else (if x13 = 1 then (some (0, 0)) else (if x12 > 255 then (some (0, 0)) else (some ((x12) % 256, x13))))
end
def sigilref4_escape.f (k : Nat) (a0 : ByteArray) (a1 : Int) : Option (Int × Int) := if (wrap64 (a1 + 1)) ≥ (a0.size : Int) then (some (0, 0)) else (if 0 ≤ (wrap64 (a1 + 1)) then (if (wrap64 (a1 + 1)) < (a0.size : Int) then (sigilref4_escape.l0 k a0 a1 (bt a0 (wrap64 (a1 + 1))) (⟨#[97, 98, 102, 110, 114, 116, 118, 92, 39, 34]⟩ : ByteArray) (([7, 8, 12, 10, 13, 9, 11, 92, 39, 34] : List Int)) 0) else (none)) else (none))
theorem sigilref4_escape.mono_l : ∀ k, (∀ y0 y1 y2 y3 y4 y5, LeO (sigilref4_escape.l0 k y0 y1 y2 y3 y4 y5) (sigilref4_escape.l0 (k + 1) y0 y1 y2 y3 y4 y5)) ∧ (∀ y0 y1 y2, LeO (sigilref4_escape.j1 k y0 y1 y2) (sigilref4_escape.j1 (k + 1) y0 y1 y2)) ∧ (∀ y0 y1 y2 y3, LeO (sigilref4_escape.l1 k y0 y1 y2 y3) (sigilref4_escape.l1 (k + 1) y0 y1 y2 y3)) ∧ (∀ y0 y1 y2 y3, LeO (sigilref4_escape.l2 k y0 y1 y2 y3) (sigilref4_escape.l2 (k + 1) y0 y1 y2 y3))
  | 0 => ⟨fun _ _ _ _ _ _ r h => by simp [sigilref4_escape.l0] at h, fun _ _ _ r h => by simp [sigilref4_escape.j1] at h, fun _ _ _ _ r h => by simp [sigilref4_escape.l1] at h, fun _ _ _ _ r h => by simp [sigilref4_escape.l2] at h⟩
  | k + 1 => by
    obtain ⟨ih0, ih1, ih2, ih3⟩ := sigilref4_escape.mono_l k
    refine ⟨?_, ?_, ?_, ?_⟩
    · intro y0 y1 y2 y3 y4 y5
      unfold sigilref4_escape.l0
      repeat' first
      | (with_reducible exact ih0 _ _ _ _ _ _)
      | (with_reducible exact ih1 _ _ _)
      | (with_reducible exact ih2 _ _ _ _)
      | (with_reducible exact ih3 _ _ _ _)
      | (with_reducible exact sigilref4_hex.mono _ _)
      | (with_reducible exact LeO.refl _)
      | (with_reducible exact LeO.none _)
      | (with_reducible refine LeO.ite ?_ ?_)
      | (with_reducible refine LeO.bind ?_ (fun _ => ?_))
      | exact ih0 _ _ _ _ _ _
      | exact ih1 _ _ _
      | exact ih2 _ _ _ _
      | exact ih3 _ _ _ _
      | exact sigilref4_hex.mono _ _
      | exact LeO.none _
      | refine LeO.ite ?_ ?_
      | refine LeO.bind ?_ (fun _ => ?_)
    · intro y0 y1 y2
      unfold sigilref4_escape.j1
      repeat' first
      | (with_reducible exact ih0 _ _ _ _ _ _)
      | (with_reducible exact ih1 _ _ _)
      | (with_reducible exact ih2 _ _ _ _)
      | (with_reducible exact ih3 _ _ _ _)
      | (with_reducible exact sigilref4_hex.mono _ _)
      | (with_reducible exact LeO.refl _)
      | (with_reducible exact LeO.none _)
      | (with_reducible refine LeO.ite ?_ ?_)
      | (with_reducible refine LeO.bind ?_ (fun _ => ?_))
      | exact ih0 _ _ _ _ _ _
      | exact ih1 _ _ _
      | exact ih2 _ _ _ _
      | exact ih3 _ _ _ _
      | exact sigilref4_hex.mono _ _
      | exact LeO.none _
      | refine LeO.ite ?_ ?_
      | refine LeO.bind ?_ (fun _ => ?_)
    · intro y0 y1 y2 y3
      unfold sigilref4_escape.l1
      repeat' first
      | (with_reducible exact ih0 _ _ _ _ _ _)
      | (with_reducible exact ih1 _ _ _)
      | (with_reducible exact ih2 _ _ _ _)
      | (with_reducible exact ih3 _ _ _ _)
      | (with_reducible exact sigilref4_hex.mono _ _)
      | (with_reducible exact LeO.refl _)
      | (with_reducible exact LeO.none _)
      | (with_reducible refine LeO.ite ?_ ?_)
      | (with_reducible refine LeO.bind ?_ (fun _ => ?_))
      | exact ih0 _ _ _ _ _ _
      | exact ih1 _ _ _
      | exact ih2 _ _ _ _
      | exact ih3 _ _ _ _
      | exact sigilref4_hex.mono _ _
      | exact LeO.none _
      | refine LeO.ite ?_ ?_
      | refine LeO.bind ?_ (fun _ => ?_)
    · intro y0 y1 y2 y3
      unfold sigilref4_escape.l2
      repeat' first
      | (with_reducible exact ih0 _ _ _ _ _ _)
      | (with_reducible exact ih1 _ _ _)
      | (with_reducible exact ih2 _ _ _ _)
      | (with_reducible exact ih3 _ _ _ _)
      | (with_reducible exact sigilref4_hex.mono _ _)
      | (with_reducible exact LeO.refl _)
      | (with_reducible exact LeO.none _)
      | (with_reducible refine LeO.ite ?_ ?_)
      | (with_reducible refine LeO.bind ?_ (fun _ => ?_))
      | exact ih0 _ _ _ _ _ _
      | exact ih1 _ _ _
      | exact ih2 _ _ _ _
      | exact ih3 _ _ _ _
      | exact sigilref4_hex.mono _ _
      | exact LeO.none _
      | refine LeO.ite ?_ ?_
      | refine LeO.bind ?_ (fun _ => ?_)
theorem sigilref4_escape.mono : ∀ a0 a1 k, LeO (sigilref4_escape.f k a0 a1) (sigilref4_escape.f (k + 1) a0 a1) := by
  intro a0 a1 k
  obtain ⟨ih0, ih1, ih2, ih3⟩ := sigilref4_escape.mono_l k
  unfold sigilref4_escape.f
  repeat' first
      | (with_reducible exact ih0 _ _ _ _ _ _)
      | (with_reducible exact ih1 _ _ _)
      | (with_reducible exact ih2 _ _ _ _)
      | (with_reducible exact ih3 _ _ _ _)
      | (with_reducible exact sigilref4_hex.mono _ _)
      | (with_reducible exact LeO.refl _)
      | (with_reducible exact LeO.none _)
      | (with_reducible refine LeO.ite ?_ ?_)
      | (with_reducible refine LeO.bind ?_ (fun _ => ?_))
      | exact ih0 _ _ _ _ _ _
      | exact ih1 _ _ _
      | exact ih2 _ _ _ _
      | exact ih3 _ _ _ _
      | exact sigilref4_hex.mono _ _
      | exact LeO.none _
      | refine LeO.ite ?_ ?_
      | refine LeO.bind ?_ (fun _ => ?_)
/-! ### sigilref4_quoted: function 42 -/
mutual
def sigilref4_quoted.l0 : Nat → ByteArray → Int → List Int → Int → Option (List Int × Int)
  | 0, _, _, _, _ => none
  | k + 1, x0, x6, x7, x8 => if x8 < (x0.size : Int) then (if 0 ≤ x8 then (sigilref4_quoted.j1 k x0 x6 x7 x8 ((bt x0 x8) != x6)) else (none)) else (sigilref4_quoted.j1 k x0 x6 x7 x8 false)
def sigilref4_quoted.j1 : Nat → ByteArray → Int → List Int → Int → Bool → Option (List Int × Int)
  | 0, _, _, _, _, _ => none
  | k + 1, x0, x6, x7, x8, x27 => if x27 = true then (if 0 ≤ x8 then (if x8 < (x0.size : Int) then (if (bt x0 x8) = 0 then (sigilref4_quoted.j2 k x0 x6 x7 x8 (bt x0 x8) true) else (sigilref4_quoted.j2 k x0 x6 x7 x8 (bt x0 x8) ((bt x0 x8) == 10))) else (none)) else (none)) else (if x8 ≥ (x0.size : Int) then (some (([] : List Int), 0)) else (some (x7, wrap64 (x8 + 1))))
def sigilref4_quoted.j2 : Nat → ByteArray → Int → List Int → Int → Int → Bool → Option (List Int × Int)
  | 0, _, _, _, _, _, _ => none
  | k + 1, x0, x6, x7, x8, x9, x36 => if x36 = true then (some (([] : List Int), 0)) else (if x9 = 92 then ((sigilref4_escape.f k x0 x8).bind fun bt128 => (if bt128.2 = 0 then (some (([] : List Int), 0)) else (if x7.length < 140737488355328 then (sigilref4_quoted.l0 k x0 x6 (x7 ++ [bt128.1]) (wrap64 (x8 + bt128.2))) else (none)))) else (if x7.length < 140737488355328 then (sigilref4_quoted.l0 k x0 x6 (x7 ++ [x9]) (wrap64 (x8 + 1))) else (none)))
end
def sigilref4_quoted.f (k : Nat) (a0 : ByteArray) (a1 : Int) : Option (List Int × Int) := if 0 ≤ a1 then (if a1 < (a0.size : Int) then (sigilref4_quoted.l0 k a0 (bt a0 a1) ([] : List Int) (wrap64 (a1 + 1))) else (none)) else (none)
theorem sigilref4_quoted.mono_l : ∀ k, (∀ y0 y1 y2 y3, LeO (sigilref4_quoted.l0 k y0 y1 y2 y3) (sigilref4_quoted.l0 (k + 1) y0 y1 y2 y3)) ∧ (∀ y0 y1 y2 y3 y4, LeO (sigilref4_quoted.j1 k y0 y1 y2 y3 y4) (sigilref4_quoted.j1 (k + 1) y0 y1 y2 y3 y4)) ∧ (∀ y0 y1 y2 y3 y4 y5, LeO (sigilref4_quoted.j2 k y0 y1 y2 y3 y4 y5) (sigilref4_quoted.j2 (k + 1) y0 y1 y2 y3 y4 y5))
  | 0 => ⟨fun _ _ _ _ r h => by simp [sigilref4_quoted.l0] at h, fun _ _ _ _ _ r h => by simp [sigilref4_quoted.j1] at h, fun _ _ _ _ _ _ r h => by simp [sigilref4_quoted.j2] at h⟩
  | k + 1 => by
    obtain ⟨ih0, ih1, ih2⟩ := sigilref4_quoted.mono_l k
    refine ⟨?_, ?_, ?_⟩
    · intro y0 y1 y2 y3
      unfold sigilref4_quoted.l0
      repeat' first
      | (with_reducible exact ih0 _ _ _ _)
      | (with_reducible exact ih1 _ _ _ _ _)
      | (with_reducible exact ih2 _ _ _ _ _ _)
      | (with_reducible exact sigilref4_escape.mono _ _ _)
      | (with_reducible exact LeO.refl _)
      | (with_reducible exact LeO.none _)
      | (with_reducible refine LeO.ite ?_ ?_)
      | (with_reducible refine LeO.bind ?_ (fun _ => ?_))
      | exact ih0 _ _ _ _
      | exact ih1 _ _ _ _ _
      | exact ih2 _ _ _ _ _ _
      | exact sigilref4_escape.mono _ _ _
      | exact LeO.none _
      | refine LeO.ite ?_ ?_
      | refine LeO.bind ?_ (fun _ => ?_)
    · intro y0 y1 y2 y3 y4
      unfold sigilref4_quoted.j1
      repeat' first
      | (with_reducible exact ih0 _ _ _ _)
      | (with_reducible exact ih1 _ _ _ _ _)
      | (with_reducible exact ih2 _ _ _ _ _ _)
      | (with_reducible exact sigilref4_escape.mono _ _ _)
      | (with_reducible exact LeO.refl _)
      | (with_reducible exact LeO.none _)
      | (with_reducible refine LeO.ite ?_ ?_)
      | (with_reducible refine LeO.bind ?_ (fun _ => ?_))
      | exact ih0 _ _ _ _
      | exact ih1 _ _ _ _ _
      | exact ih2 _ _ _ _ _ _
      | exact sigilref4_escape.mono _ _ _
      | exact LeO.none _
      | refine LeO.ite ?_ ?_
      | refine LeO.bind ?_ (fun _ => ?_)
    · intro y0 y1 y2 y3 y4 y5
      unfold sigilref4_quoted.j2
      repeat' first
      | (with_reducible exact ih0 _ _ _ _)
      | (with_reducible exact ih1 _ _ _ _ _)
      | (with_reducible exact ih2 _ _ _ _ _ _)
      | (with_reducible exact sigilref4_escape.mono _ _ _)
      | (with_reducible exact LeO.refl _)
      | (with_reducible exact LeO.none _)
      | (with_reducible refine LeO.ite ?_ ?_)
      | (with_reducible refine LeO.bind ?_ (fun _ => ?_))
      | exact ih0 _ _ _ _
      | exact ih1 _ _ _ _ _
      | exact ih2 _ _ _ _ _ _
      | exact sigilref4_escape.mono _ _ _
      | exact LeO.none _
      | refine LeO.ite ?_ ?_
      | refine LeO.bind ?_ (fun _ => ?_)
theorem sigilref4_quoted.mono : ∀ a0 a1 k, LeO (sigilref4_quoted.f k a0 a1) (sigilref4_quoted.f (k + 1) a0 a1) := by
  intro a0 a1 k
  obtain ⟨ih0, ih1, ih2⟩ := sigilref4_quoted.mono_l k
  unfold sigilref4_quoted.f
  repeat' first
      | (with_reducible exact ih0 _ _ _ _)
      | (with_reducible exact ih1 _ _ _ _ _)
      | (with_reducible exact ih2 _ _ _ _ _ _)
      | (with_reducible exact sigilref4_escape.mono _ _ _)
      | (with_reducible exact LeO.refl _)
      | (with_reducible exact LeO.none _)
      | (with_reducible refine LeO.ite ?_ ?_)
      | (with_reducible refine LeO.bind ?_ (fun _ => ?_))
      | exact ih0 _ _ _ _
      | exact ih1 _ _ _ _ _
      | exact ih2 _ _ _ _ _ _
      | exact sigilref4_escape.mono _ _ _
      | exact LeO.none _
      | refine LeO.ite ?_ ?_
      | refine LeO.bind ?_ (fun _ => ?_)
/-! ### sigilref4_Unquote: function 18 -/
def sigilref4_Unquote.j0 : Nat → ByteArray → Bool → Option (ByteArray × Int)
  | 0, _, _ => none
  | k + 1, x0, x23 => if x23 = true then (some ((⟨#[]⟩ : ByteArray), 42)) else ((sigilref4_quoted.f k x0 0).bind fun bt137 => (if bt137.2 = (x0.size : Int) then (some (strOfNums bt137.1, 0)) else (some ((⟨#[]⟩ : ByteArray), 42))))
def sigilref4_Unquote.f (k : Nat) (a0 : ByteArray) : Option (ByteArray × Int) := if (a0.size : Int) > 65536 then (some ((⟨#[]⟩ : ByteArray), 2)) else ((sigilref4_Utf8.f k a0).bind fun t136 => (if t136 ≥ 0 then (some ((⟨#[]⟩ : ByteArray), 44)) else (if a0.toList = ([] : List UInt8) then (sigilref4_Unquote.j0 k a0 true) else (if 0 < (a0.size : Int) then (if (bt a0 0) = 34 then (sigilref4_Unquote.j0 k a0 false) else (sigilref4_Unquote.j0 k a0 ((bt a0 0) != 39))) else (none)))))
theorem sigilref4_Unquote.mono_l : ∀ k, (∀ y0 y1, LeO (sigilref4_Unquote.j0 k y0 y1) (sigilref4_Unquote.j0 (k + 1) y0 y1))
  | 0 => fun _ _ r h => by simp [sigilref4_Unquote.j0] at h
  | k + 1 => by
    have ih0 := sigilref4_Unquote.mono_l k
    · intro y0 y1
      unfold sigilref4_Unquote.j0
      repeat' first
      | (with_reducible exact ih0 _ _)
      | (with_reducible exact sigilref4_Utf8.mono _ _)
      | (with_reducible exact sigilref4_quoted.mono _ _ _)
      | (with_reducible exact LeO.refl _)
      | (with_reducible exact LeO.none _)
      | (with_reducible refine LeO.ite ?_ ?_)
      | (with_reducible refine LeO.bind ?_ (fun _ => ?_))
      | exact ih0 _ _
      | exact sigilref4_Utf8.mono _ _
      | exact sigilref4_quoted.mono _ _ _
      | exact LeO.none _
      | refine LeO.ite ?_ ?_
      | refine LeO.bind ?_ (fun _ => ?_)
theorem sigilref4_Unquote.mono : ∀ a0 k, LeO (sigilref4_Unquote.f k a0) (sigilref4_Unquote.f (k + 1) a0) := by
  intro a0 k
  have ih0 := sigilref4_Unquote.mono_l k
  unfold sigilref4_Unquote.f
  repeat' first
      | (with_reducible exact ih0 _ _)
      | (with_reducible exact sigilref4_Utf8.mono _ _)
      | (with_reducible exact sigilref4_quoted.mono _ _ _)
      | (with_reducible exact LeO.refl _)
      | (with_reducible exact LeO.none _)
      | (with_reducible refine LeO.ite ?_ ?_)
      | (with_reducible refine LeO.bind ?_ (fun _ => ?_))
      | exact ih0 _ _
      | exact sigilref4_Utf8.mono _ _
      | exact sigilref4_quoted.mono _ _ _
      | exact LeO.none _
      | refine LeO.ite ?_ ?_
      | refine LeO.bind ?_ (fun _ => ?_)
/-! ### scan_row: function 60 -/
def scan_row.l0 : Nat → ByteArray → Int → Option (Int)
  | 0, _, _ => none
  | k + 1, x0, x3 => if x3 < (x0.size : Int) then (if 0 ≤ x3 then ((scan_class.f k (bt x0 x3)).bind fun t149 => (if t149 = 2 then (scan_row.l0 k x0 (wrap64 (x3 + 1))) else (if t149 = 3 then (scan_row.l0 k x0 (wrap64 (x3 + 1))) else (some x3)))) else (none)) else (some x3)
def scan_row.f (k : Nat) (a0 : ByteArray) : Option (Int) := scan_row.l0 k a0 0
theorem scan_row.mono_l : ∀ k, (∀ y0 y1, LeO (scan_row.l0 k y0 y1) (scan_row.l0 (k + 1) y0 y1))
  | 0 => fun _ _ r h => by simp [scan_row.l0] at h
  | k + 1 => by
    have ih0 := scan_row.mono_l k
    · intro y0 y1
      unfold scan_row.l0
      repeat' first
      | (with_reducible exact ih0 _ _)
      | (with_reducible exact scan_class.mono _ _)
      | (with_reducible exact LeO.refl _)
      | (with_reducible exact LeO.none _)
      | (with_reducible refine LeO.ite ?_ ?_)
      | (with_reducible refine LeO.bind ?_ (fun _ => ?_))
      | exact ih0 _ _
      | exact scan_class.mono _ _
      | exact LeO.none _
      | refine LeO.ite ?_ ?_
      | refine LeO.bind ?_ (fun _ => ?_)
theorem scan_row.mono : ∀ a0 k, LeO (scan_row.f k a0) (scan_row.f (k + 1) a0) := by
  intro a0 k
  have ih0 := scan_row.mono_l k
  unfold scan_row.f
  repeat' first
      | (with_reducible exact ih0 _ _)
      | (with_reducible exact scan_class.mono _ _)
      | (with_reducible exact LeO.refl _)
      | (with_reducible exact LeO.none _)
      | (with_reducible refine LeO.ite ?_ ?_)
      | (with_reducible refine LeO.bind ?_ (fun _ => ?_))
      | exact ih0 _ _
      | exact scan_class.mono _ _
      | exact LeO.none _
      | refine LeO.ite ?_ ?_
      | refine LeO.bind ?_ (fun _ => ?_)
set_option maxHeartbeats 8000000 in
set_option maxRecDepth 100000 in
theorem scan_row.calls (k : Nat) (a0 : ByteArray) (r : Int) (w : World) (h : scan_row.f k a0 = some r) :
    Calls Tryd.prog 60 #[.string a0] w fun e w' => e = .returned (.int .i64 r) ∧ Drawn0 w w' := by
  have H : (scan_row.l0 k a0 0) = some r := h
  clear h
  have H' := Aside0.mk H
  clear H
  go_enter Tryd.func60, Tryd.ntmps60
  go_wp2
  go_loopg [3] k (fun kq v3 w' => ∃ (x3_1 : Int), v3 = .int .i64 x3_1 ∧ Aside0 (scan_row.l0 kq a0 x3_1 = some r) ∧ Aside0 (kq ≤ k) ∧ Drawn0 w w')
  case atStart => exact ⟨(0), (by first | rfl | (simp; done) | (simp [*]; done)), H', ⟨Nat.le_refl _⟩, by repeat (first | exact Drawn0.refl _ | apply Drawn0.step)⟩
  case round =>
    clear H'
    obtain ⟨x3_1, rfl, HA, HK1, ⟨m1, rfl⟩⟩ := hrel
    cases gk with
    | zero => exact absurd HA.out (by simp [scan_row.l0])
    | succ k1 =>
      have H := HA.out
      clear HA
      simp only [scan_row.l0] at H
      by_cases c2 : x3_1 < (a0.size : Int)
      · rw [if_pos c2] at H
        have c2b0 : decide (x3_1 < (a0.size : Int)) = true := decide_eq_true c2
        clear c2
        by_cases c3 : 0 ≤ x3_1
        · rw [if_pos c3] at H
          have c3b0 : decide (0 ≤ x3_1) = true := decide_eq_true c3
          clear c3
          replace H := Option.bind_eq_some_iff.mp H
          obtain ⟨t149, A50, H⟩ := H
          replace H : (if t149 = 2 then (scan_row.l0 k1 a0 (wrap64 (x3_1 + 1))) else (if t149 = 3 then (scan_row.l0 k1 a0 (wrap64 (x3_1 + 1))) else (some x3_1))) = some r := H
          have A5 := Aside0.mk A50
          clear A50
          by_cases c6 : t149 = 2
          · rw [if_pos c6] at H
            have c6b0 : (t149 == 2) = true := beq_iff_eq.mpr c6
            have c6b1 : (t149 != 2) = false := bne_eq_false_iff_eq.mpr c6
            clear c6
            have H' := Aside0.mk H
            clear H
            have p4 : 0 ≤ (x3_1 : Int) := of_decide_eq_true (by first | (with_reducible assumption) | assumption)
            have q4 : x3_1 < (a0.size : Int) := of_decide_eq_true (by first | (with_reducible assumption) | assumption)
            have hx4 := bt_at a0 x3_1
            replace p4 := eq_true p4
            replace q4 := eq_true q4
            go_wp2_with (first | (go_at_call 45; (with_reducible refine (scan_class.calls k1 (bt a0 x3_1) t149 _ A5.out).mono ?_); rintro e w' ⟨rfl, ⟨nd, rfl⟩⟩))
            go_roundg k1
            case measure => have := HK1.out; omega
            case rel => exact ⟨(wrap64 (x3_1 + 1)), (by first | rfl | (simp; done) | (simp [*]; done)), H', ⟨by have := HK1.out; omega⟩, by repeat (first | exact Drawn0.refl _ | apply Drawn0.step)⟩
          · rw [if_neg c6] at H
            have c6b0 : (t149 == 2) = false := beq_eq_false_iff_ne.mpr c6
            have c6b1 : (t149 != 2) = true := bne_iff_ne.mpr c6
            by_cases c8 : t149 = 3
            · rw [if_pos c8] at H
              have c8b0 : (t149 == 3) = true := beq_iff_eq.mpr c8
              have c8b1 : (t149 != 3) = false := bne_eq_false_iff_eq.mpr c8
              clear c8
              have H' := Aside0.mk H
              clear H
              have p4 : 0 ≤ (x3_1 : Int) := of_decide_eq_true (by first | (with_reducible assumption) | assumption)
              have q4 : x3_1 < (a0.size : Int) := of_decide_eq_true (by first | (with_reducible assumption) | assumption)
              have hx4 := bt_at a0 x3_1
              replace p4 := eq_true p4
              replace q4 := eq_true q4
              go_wp2_with (first | (go_at_call 45; (with_reducible refine (scan_class.calls k1 (bt a0 x3_1) t149 _ A5.out).mono ?_); rintro e w' ⟨rfl, ⟨nd, rfl⟩⟩; have p7 : 0 ≤ (x3_1 : Int) := of_decide_eq_true (by first | (with_reducible assumption) | assumption); have q7 : x3_1 < (a0.size : Int) := of_decide_eq_true (by first | (with_reducible assumption) | assumption); have hx7 := bt_at a0 x3_1; replace p7 := eq_true p7; replace q7 := eq_true q7))
              go_roundg k1
              case measure => have := HK1.out; omega
              case rel => exact ⟨(wrap64 (x3_1 + 1)), (by first | rfl | (simp; done) | (simp [*]; done)), H', ⟨by have := HK1.out; omega⟩, by repeat (first | exact Drawn0.refl _ | apply Drawn0.step)⟩
            · rw [if_neg c8] at H
              have c8b0 : (t149 == 3) = false := beq_eq_false_iff_ne.mpr c8
              have c8b1 : (t149 != 3) = true := bne_iff_ne.mpr c8
              obtain rfl := Option.some.inj H
              have p4 : 0 ≤ (x3_1 : Int) := of_decide_eq_true (by first | (with_reducible assumption) | assumption)
              have q4 : x3_1 < (a0.size : Int) := of_decide_eq_true (by first | (with_reducible assumption) | assumption)
              have hx4 := bt_at a0 x3_1
              replace p4 := eq_true p4
              replace q4 := eq_true q4
              go_wp2_with (first | (go_at_call 45; (with_reducible refine (scan_class.calls k1 (bt a0 x3_1) t149 _ A5.out).mono ?_); rintro e w' ⟨rfl, ⟨nd, rfl⟩⟩; have p7 : 0 ≤ (x3_1 : Int) := of_decide_eq_true (by first | (with_reducible assumption) | assumption); have q7 : x3_1 < (a0.size : Int) := of_decide_eq_true (by first | (with_reducible assumption) | assumption); have hx7 := bt_at a0 x3_1; replace p7 := eq_true p7; replace q7 := eq_true q7))
              go_ret
              exact ⟨by first | rfl | (simp; done) | (simp [*]; done), by repeat (first | exact Drawn0.refl _ | apply Drawn0.step)⟩
        · rw [if_neg c3] at H
          exact absurd H (by simp)
      · rw [if_neg c2] at H
        have c2b0 : decide (x3_1 < (a0.size : Int)) = false := decide_eq_false c2
        clear c2
        obtain rfl := Option.some.inj H
        go_wp2
        go_ret
        exact ⟨by first | rfl | (simp; done) | (simp [*]; done), by repeat (first | exact Drawn0.refl _ | apply Drawn0.step)⟩

end Go.Proofs.YtabgnbbljjohdaaRDoor.A
