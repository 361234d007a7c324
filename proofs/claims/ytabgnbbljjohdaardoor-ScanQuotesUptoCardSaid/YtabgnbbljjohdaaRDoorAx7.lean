-- THIS SESSION'S TEXT: written by plugprint.py out of the translation, with contracts proved by hand.
import Derived.Test.YtabgnbbljjohdaaRDoorAx0
import Derived.Test.YtabgnbbljjohdaaRDoorAx2
import Derived.Test.YtabgnbbljjohdaaRDoorAx3
import Derived.Test.YtabgnbbljjohdaaRDoorAx5
import Derived.Test.YtabgnbbljjohdaaRDoorAx6
namespace Go.Proofs.YtabgnbbljjohdaaRDoor.A
open Go.RowKit Go.Proofs.YtabgnbbljjohdaaRDoorW.PrintWords Go.Proofs.YtabgnbbljjohdaaRDoorW.PrintLast Go.Proofs.YtabgnbbljjohdaaRDoorW.PrintMore
attribute [local go_sem] max2_int min2_int max_two min_two max_three min_three max_four min_four   -- for this text's walks alone
set_option linter.unusedVariables false
set_option linter.unusedSimpArgs false

/-! ### sigilref4_Tokens: function 43 -/
def sigilref4_Tokens.l0 : Nat → ByteArray → List (S40) → Int → Option ((List (S40)) × Int × Int)
  | 0, _, _, _ => none
  | k + 1, x0, x6, x7 => (sigilref4_pass.f k x0 x7).bind fun bt188 => (if bt188.2 = true then (if bt188.1 = (x0.size : Int) then (if x6.length < 4398046511104 then (some ((x6 ++ [(⟨5, bt188.1, (⟨#[]⟩ : ByteArray)⟩ : S40)]), 0, 0)) else (none)) else (if (x6.length : Int) = 16383 then (some (([] : List (S40)), bt188.1, 45)) else ((sigilref4_one.f k x0 bt188.1).bind fun bt193 => (if bt193.2.2 = 0 then (if 0 ≤ bt188.1 then (if bt188.1 ≤ bt193.2.1 then (if bt193.2.1 ≤ (x0.size : Int) then (if x6.length < 4398046511104 then (sigilref4_Tokens.l0 k x0 (x6 ++ [(⟨bt193.1, bt188.1, x0.extract (bt188.1 : Int).toNat (bt193.2.1 : Int).toNat⟩ : S40)]) bt193.2.1) else (none)) else (none)) else (none)) else (none)) else (some (([] : List (S40)), bt188.1, bt193.2.2)))))) else (some (([] : List (S40)), bt188.1, 43)))
def sigilref4_Tokens.f (k : Nat) (a0 : ByteArray) : Option ((List (S40)) × Int × Int) := if (a0.size : Int) > 65536 then (some (([] : List (S40)), 0, 2)) else ((sigilref4_Utf8.f k a0).bind fun t187 => (if t187 ≥ 0 then (some (([] : List (S40)), t187, 44)) else (sigilref4_Tokens.l0 k a0 ([] : List (S40)) 0)))
theorem sigilref4_Tokens.mono_l : ∀ k, (∀ y0 y1 y2, LeO (sigilref4_Tokens.l0 k y0 y1 y2) (sigilref4_Tokens.l0 (k + 1) y0 y1 y2))
  | 0 => fun _ _ _ r h => by simp [sigilref4_Tokens.l0] at h
  | k + 1 => by
    have ih0 := sigilref4_Tokens.mono_l k
    · intro y0 y1 y2
      unfold sigilref4_Tokens.l0
      repeat' first
      | (with_reducible exact ih0 _ _ _)
      | (with_reducible exact sigilref4_Utf8.mono _ _)
      | (with_reducible exact sigilref4_one.mono _ _ _)
      | (with_reducible exact sigilref4_pass.mono _ _ _)
      | (with_reducible exact LeO.refl _)
      | (with_reducible exact LeO.none _)
      | (with_reducible refine LeO.ite ?_ ?_)
      | (with_reducible refine LeO.bind ?_ (fun _ => ?_))
      | exact ih0 _ _ _
      | exact sigilref4_Utf8.mono _ _
      | exact sigilref4_one.mono _ _ _
      | exact sigilref4_pass.mono _ _ _
      | exact LeO.none _
      | refine LeO.ite ?_ ?_
      | refine LeO.bind ?_ (fun _ => ?_)
theorem sigilref4_Tokens.mono : ∀ a0 k, LeO (sigilref4_Tokens.f k a0) (sigilref4_Tokens.f (k + 1) a0) := by
  intro a0 k
  have ih0 := sigilref4_Tokens.mono_l k
  unfold sigilref4_Tokens.f
  repeat' first
      | (with_reducible exact ih0 _ _ _)
      | (with_reducible exact sigilref4_Utf8.mono _ _)
      | (with_reducible exact sigilref4_one.mono _ _ _)
      | (with_reducible exact sigilref4_pass.mono _ _ _)
      | (with_reducible exact LeO.refl _)
      | (with_reducible exact LeO.none _)
      | (with_reducible refine LeO.ite ?_ ?_)
      | (with_reducible refine LeO.bind ?_ (fun _ => ?_))
      | exact ih0 _ _ _
      | exact sigilref4_Utf8.mono _ _
      | exact sigilref4_one.mono _ _ _
      | exact sigilref4_pass.mono _ _ _
      | exact LeO.none _
      | refine LeO.ite ?_ ?_
      | refine LeO.bind ?_ (fun _ => ?_)
/-! ### sigillaw4_scanned: function 20 -/
def sigillaw4_scanned.f (k : Nat) (a0 : ByteArray) : Option (Bool) := (scan_Tokens.f k a0).bind fun bt199 => ((sigilref4_Tokens.f k a0).bind fun bt204 => (if bt199.2.2 = bt204.2.2 then (if bt199.2.1 = bt204.2.1 then ((sigillaw4_SameTokens.f k bt199.1 bt204.1).bind fun t209 => (some t209)) else (some false)) else (some false)))
theorem sigillaw4_scanned.mono : ∀ a0 k, LeO (sigillaw4_scanned.f k a0) (sigillaw4_scanned.f (k + 1) a0) := by
  intro a0 k
  unfold sigillaw4_scanned.f
  repeat' first
      | (with_reducible exact scan_Tokens.mono _ _)
      | (with_reducible exact sigillaw4_SameTokens.mono _ _ _)
      | (with_reducible exact sigilref4_Tokens.mono _ _)
      | (with_reducible exact LeO.refl _)
      | (with_reducible exact LeO.none _)
      | (with_reducible refine LeO.ite ?_ ?_)
      | (with_reducible refine LeO.bind ?_ (fun _ => ?_))
      | exact scan_Tokens.mono _ _
      | exact sigillaw4_SameTokens.mono _ _ _
      | exact sigilref4_Tokens.mono _ _
      | exact LeO.none _
      | refine LeO.ite ?_ ?_
      | refine LeO.bind ?_ (fun _ => ?_)

end Go.Proofs.YtabgnbbljjohdaaRDoor.A
