-- THIS SESSION'S TEXT: written by plugprint.py out of the translation, with contracts proved by hand.
import Derived.Test.YtabgnbbljjohdaaRDoorAx0
import Derived.Test.YtabgnbbljjohdaaRDoorAx1
import Derived.Test.YtabgnbbljjohdaaRDoorAx2
import Derived.Test.YtabgnbbljjohdaaRDoorAx3
import Derived.Test.YtabgnbbljjohdaaRDoorAx4
namespace Go.Proofs.YtabgnbbljjohdaaRDoor.A
open Go.RowKit Go.Proofs.YtabgnbbljjohdaaRDoorW.PrintWords Go.Proofs.YtabgnbbljjohdaaRDoorW.PrintLast Go.Proofs.YtabgnbbljjohdaaRDoorW.PrintMore
attribute [local go_sem] max2_int min2_int max_two min_two max_three min_three max_four min_four   -- for this text's walks alone
set_option linter.unusedVariables false
set_option linter.unusedSimpArgs false

attribute [local go_sem high] eqA40
/-! ### scan_worth: function 80 -/
mutual
def scan_worth.j1 : Nat → Int → ByteArray → Option (Int × Bool)
  | 0, _, _ => none
  | k + 1, x4, x5 => scan_worth.l0 k x4 x5 0 (x5.size : Int) 0
def scan_worth.l0 : Nat → Int → ByteArray → Int → Int → Int → Option (Int × Bool)
  | 0, _, _, _, _, _ => none
  | k + 1, x4, x5, x6, x43, x44 => if x44 < x43 then (if 0 ≤ x44 then (if x44 < (x5.size : Int) then ((scan_value.f k (bt x5 x44)).bind fun t150 => (if t150 ≥ x4 then (some (0, false)) else (if x4 = 0 then (none) else (if x6 > (wrap64 (Int.tdiv (wrap64 (9223372036854775807 - t150)) x4)) then (some (0, false)) else (scan_worth.l0 k x4 x5 (wrap64 ((wrap64 (x6 * x4)) + t150)) x43 (wrap64 (x44 + 1))))))) else (none)) else (none)) else (some (x6, decide ((x5.size : Int) > 0)))
def scan_worth.j0 : Nat → ByteArray → Int → ByteArray → Bool → Option (Int × Bool)
  | 0, _, _, _, _ => none
  | k + 1, x0, x4, x5, x10 => if x10 = true then (if 2 ≤ (x0.size : Int) then (scan_worth.j1 k 16 (x0.extract 2 x0.size)) else (none)) else (if (x0.size : Int) > 1 then (if 0 < (x0.size : Int) then (if (bt x0 0) = 48 then (if 1 ≤ (x0.size : Int) then (scan_worth.j1 k 8 (x0.extract 1 x0.size)) else (none)) else (scan_worth.j1 k x4 x5)) else (none)) else (scan_worth.j1 k x4 x5))
end
def scan_worth.f (k : Nat) (a0 : ByteArray) : Option (Int × Bool) := if (a0.size : Int) > 1 then (if 0 < (a0.size : Int) then (if (bt a0 0) = 48 then (if 1 < (a0.size : Int) then (if (bt a0 1) = 120 then (scan_worth.j0 k a0 10 a0 true) else (scan_worth.j0 k a0 10 a0 ((bt a0 1) == 88))) else (none)) else (scan_worth.j0 k a0 10 a0 false)) else (none)) else (scan_worth.j0 k a0 10 a0 false)
theorem scan_worth.mono_l : ∀ k, (∀ y0 y1, LeO (scan_worth.j1 k y0 y1) (scan_worth.j1 (k + 1) y0 y1)) ∧ (∀ y0 y1 y2 y3 y4, LeO (scan_worth.l0 k y0 y1 y2 y3 y4) (scan_worth.l0 (k + 1) y0 y1 y2 y3 y4)) ∧ (∀ y0 y1 y2 y3, LeO (scan_worth.j0 k y0 y1 y2 y3) (scan_worth.j0 (k + 1) y0 y1 y2 y3))
  | 0 => ⟨fun _ _ r h => by simp [scan_worth.j1] at h, fun _ _ _ _ _ r h => by simp [scan_worth.l0] at h, fun _ _ _ _ r h => by simp [scan_worth.j0] at h⟩
  | k + 1 => by
    obtain ⟨ih0, ih1, ih2⟩ := scan_worth.mono_l k
    refine ⟨?_, ?_, ?_⟩
    · intro y0 y1
      unfold scan_worth.j1
      repeat' first
      | (with_reducible exact ih0 _ _)
      | (with_reducible exact ih1 _ _ _ _ _)
      | (with_reducible exact ih2 _ _ _ _)
      | (with_reducible exact scan_value.mono _ _)
      | (with_reducible exact LeO.refl _)
      | (with_reducible exact LeO.none _)
      | (with_reducible refine LeO.ite ?_ ?_)
      | (with_reducible refine LeO.bind ?_ (fun _ => ?_))
      | exact ih0 _ _
      | exact ih1 _ _ _ _ _
      | exact ih2 _ _ _ _
      | exact scan_value.mono _ _
      | exact LeO.none _
      | refine LeO.ite ?_ ?_
      | refine LeO.bind ?_ (fun _ => ?_)
    · intro y0 y1 y2 y3 y4
      unfold scan_worth.l0
      repeat' first
      | (with_reducible exact ih0 _ _)
      | (with_reducible exact ih1 _ _ _ _ _)
      | (with_reducible exact ih2 _ _ _ _)
      | (with_reducible exact scan_value.mono _ _)
      | (with_reducible exact LeO.refl _)
      | (with_reducible exact LeO.none _)
      | (with_reducible refine LeO.ite ?_ ?_)
      | (with_reducible refine LeO.bind ?_ (fun _ => ?_))
      | exact ih0 _ _
      | exact ih1 _ _ _ _ _
      | exact ih2 _ _ _ _
      | exact scan_value.mono _ _
      | exact LeO.none _
      | refine LeO.ite ?_ ?_
      | refine LeO.bind ?_ (fun _ => ?_)
    · intro y0 y1 y2 y3
      unfold scan_worth.j0
      repeat' first
      | (with_reducible exact ih0 _ _)
      | (with_reducible exact ih1 _ _ _ _ _)
      | (with_reducible exact ih2 _ _ _ _)
      | (with_reducible exact scan_value.mono _ _)
      | (with_reducible exact LeO.refl _)
      | (with_reducible exact LeO.none _)
      | (with_reducible refine LeO.ite ?_ ?_)
      | (with_reducible refine LeO.bind ?_ (fun _ => ?_))
      | exact ih0 _ _
      | exact ih1 _ _ _ _ _
      | exact ih2 _ _ _ _
      | exact scan_value.mono _ _
      | exact LeO.none _
      | refine LeO.ite ?_ ?_
      | refine LeO.bind ?_ (fun _ => ?_)
theorem scan_worth.mono : ∀ a0 k, LeO (scan_worth.f k a0) (scan_worth.f (k + 1) a0) := by
  intro a0 k
  obtain ⟨ih0, ih1, ih2⟩ := scan_worth.mono_l k
  unfold scan_worth.f
  repeat' first
      | (with_reducible exact ih0 _ _)
      | (with_reducible exact ih1 _ _ _ _ _)
      | (with_reducible exact ih2 _ _ _ _)
      | (with_reducible exact scan_value.mono _ _)
      | (with_reducible exact LeO.refl _)
      | (with_reducible exact LeO.none _)
      | (with_reducible refine LeO.ite ?_ ?_)
      | (with_reducible refine LeO.bind ?_ (fun _ => ?_))
      | exact ih0 _ _
      | exact ih1 _ _ _ _ _
      | exact ih2 _ _ _ _
      | exact scan_value.mono _ _
      | exact LeO.none _
      | refine LeO.ite ?_ ?_
      | refine LeO.bind ?_ (fun _ => ?_)
set_option maxHeartbeats 8000000 in
set_option maxRecDepth 100000 in
theorem scan_worth.calls (k : Nat) (a0 : ByteArray) (r1 : Int) (r2 : Bool) (w : World) (h : scan_worth.f k a0 = some (r1, r2)) :
    Calls Tryd.prog 80 #[.string a0] w fun e w' => e = .returned (.tuple #[.int .i64 r1, .bool r2]) ∧ Drawn0 w w' := by
  have H : (if (a0.size : Int) > 1 then (if 0 < (a0.size : Int) then (if (bt a0 0) = 48 then (if 1 < (a0.size : Int) then (if (bt a0 1) = 120 then (scan_worth.j0 k a0 10 a0 true) else (scan_worth.j0 k a0 10 a0 ((bt a0 1) == 88))) else (none)) else (scan_worth.j0 k a0 10 a0 false)) else (none)) else (scan_worth.j0 k a0 10 a0 false)) = some (r1, r2) := h
  clear h
  have HC2 := Aside0.mk H
  clear H
  go_enter Tryd.func80, Tryd.ntmps80
  go_upto_block 0 with (fail)
  repeat (go_quiet (fail); go_upto_block 0 with (fail))
  go_cut [4, 5] (fun v4 v5 wc => ∃ (kq : Nat) (x4_1 : Int) (x5_1 : ByteArray), v4 = .int .i64 x4_1 ∧ v5 = .string x5_1 ∧ Aside0 (scan_worth.j1 kq x4_1 x5_1 = some (r1, r2)) ∧ Aside0 (kq ≤ k) ∧ Drawn0 w wc)
  case first =>
    have H := HC2.out
    clear HC2
    have HC3 := Aside0.mk H
    clear H
    go_upto_region 2 with (fail)
    repeat (go_quiet (fail); go_upto_region 2 with (fail))
    go_cut [10] (fun v10 wc => ∃ (kq : Nat) (x10_2 : Bool), v10 = .bool x10_2 ∧ Aside0 (scan_worth.j0 kq a0 10 a0 x10_2 = some (r1, r2)) ∧ Aside0 (kq ≤ k) ∧ Drawn0 w wc)
    case first =>
      have H := HC3.out
      clear HC3
      by_cases c4 : (a0.size : Int) > 1
      · rw [if_pos c4] at H
        have c4b0 : decide (1 < (a0.size : Int)) = true := decide_eq_true c4
        have c4b1 : decide (1 < a0.size) = true := decide_eq_true (by omega)
        clear c4
        (first | rw [c4b0] | (simp only [i64_w, i32_w]; rw [c4b0]) | skip)
        by_cases c5 : 0 < (a0.size : Int)
        · rw [if_pos c5] at H
          have c5b0 : decide (0 < (a0.size : Int)) = true := decide_eq_true c5
          have c5b1 : decide (0 < a0.size) = true := decide_eq_true (by omega)
          clear c5
          by_cases c7 : (bt a0 0) = 48
          · rw [if_pos c7] at H
            have c7b0 : ((bt a0 0) == 48) = true := beq_iff_eq.mpr c7
            have c7b1 : ((bt a0 0) != 48) = false := bne_eq_false_iff_eq.mpr c7
            clear c7
            by_cases c8 : 1 < (a0.size : Int)
            · rw [if_pos c8] at H
              have c8b0 : decide (1 < (a0.size : Int)) = true := decide_eq_true c8
              have c8b1 : decide (1 < a0.size) = true := decide_eq_true (by omega)
              clear c8
              by_cases c10 : (bt a0 1) = 120
              · rw [if_pos c10] at H
                have c10b0 : ((bt a0 1) == 120) = true := beq_iff_eq.mpr c10
                have c10b1 : ((bt a0 1) != 120) = false := bne_eq_false_iff_eq.mpr c10
                clear c10
                have H' := Aside0.mk H
                clear H
                have p6 : 0 ≤ (0 : Int) := (by omega)
                have q6 : 0 < a0.size := (by have : (0 : Int) < (a0.size : Int) := of_decide_eq_true (by first | (with_reducible assumption) | assumption); omega)
                have hx6 : ∀ h : 0 < a0.size, ((a0[0]'h).toNat : Int) = bt a0 0 := bt_at a0 0
                clear p6
                have qi6 : (0 < (a0.size : Int)) = True := eq_true (of_decide_eq_true (by first | (with_reducible assumption) | assumption))
                replace q6 := eq_true q6
                have p9 : 0 ≤ (1 : Int) := (by omega)
                have q9 : 1 < a0.size := (by have : (1 : Int) < (a0.size : Int) := of_decide_eq_true (by first | (with_reducible assumption) | assumption); omega)
                have hx9 : ∀ h : 1 < a0.size, ((a0[1]'h).toNat : Int) = bt a0 1 := bt_at a0 1
                clear p9
                have qi9 : (1 < (a0.size : Int)) = True := eq_true (of_decide_eq_true (by first | (with_reducible assumption) | assumption))
                replace q9 := eq_true q9
                go_wp2
                repeat (go_quiet (fail); try go_wp2)
                go_meet
                case rel => exact ⟨_, (true), (by first | rfl | (simp; done) | (simp [*]; done)), H', ⟨by first | omega | exact Nat.le_refl _⟩, by repeat (first | exact Drawn0.refl _ | apply Drawn0.step)⟩
              · rw [if_neg c10] at H
                have c10b0 : ((bt a0 1) == 120) = false := beq_eq_false_iff_ne.mpr c10
                have c10b1 : ((bt a0 1) != 120) = true := bne_iff_ne.mpr c10
                have H' := Aside0.mk H
                clear H
                have p6 : 0 ≤ (0 : Int) := (by omega)
                have q6 : 0 < a0.size := (by have : (0 : Int) < (a0.size : Int) := of_decide_eq_true (by first | (with_reducible assumption) | assumption); omega)
                have hx6 : ∀ h : 0 < a0.size, ((a0[0]'h).toNat : Int) = bt a0 0 := bt_at a0 0
                clear p6
                have qi6 : (0 < (a0.size : Int)) = True := eq_true (of_decide_eq_true (by first | (with_reducible assumption) | assumption))
                replace q6 := eq_true q6
                have p9 : 0 ≤ (1 : Int) := (by omega)
                have q9 : 1 < a0.size := (by have : (1 : Int) < (a0.size : Int) := of_decide_eq_true (by first | (with_reducible assumption) | assumption); omega)
                have hx9 : ∀ h : 1 < a0.size, ((a0[1]'h).toNat : Int) = bt a0 1 := bt_at a0 1
                clear p9
                have qi9 : (1 < (a0.size : Int)) = True := eq_true (of_decide_eq_true (by first | (with_reducible assumption) | assumption))
                replace q9 := eq_true q9
                have p11 : 0 ≤ (1 : Int) := (by omega)
                have q11 : 1 < a0.size := (by have : (1 : Int) < (a0.size : Int) := of_decide_eq_true (by first | (with_reducible assumption) | assumption); omega)
                have hx11 : ∀ h : 1 < a0.size, ((a0[1]'h).toNat : Int) = bt a0 1 := bt_at a0 1
                clear p11
                have qi11 : (1 < (a0.size : Int)) = True := eq_true (of_decide_eq_true (by first | (with_reducible assumption) | assumption))
                replace q11 := eq_true q11
                go_wp2
                repeat (go_quiet (fail); try go_wp2)
                go_meet
                case rel => exact ⟨_, (((bt a0 1) == 88)), (by first | rfl | (simp; done) | (simp [*]; done)), H', ⟨by first | omega | exact Nat.le_refl _⟩, by repeat (first | exact Drawn0.refl _ | apply Drawn0.step)⟩
            · rw [if_neg c8] at H
              exact absurd H (by simp)
          · rw [if_neg c7] at H
            have c7b0 : ((bt a0 0) == 48) = false := beq_eq_false_iff_ne.mpr c7
            have c7b1 : ((bt a0 0) != 48) = true := bne_iff_ne.mpr c7
            have H' := Aside0.mk H
            clear H
            have p6 : 0 ≤ (0 : Int) := (by omega)
            have q6 : 0 < a0.size := (by have : (0 : Int) < (a0.size : Int) := of_decide_eq_true (by first | (with_reducible assumption) | assumption); omega)
            have hx6 : ∀ h : 0 < a0.size, ((a0[0]'h).toNat : Int) = bt a0 0 := bt_at a0 0
            clear p6
            have qi6 : (0 < (a0.size : Int)) = True := eq_true (of_decide_eq_true (by first | (with_reducible assumption) | assumption))
            replace q6 := eq_true q6
            go_wp2
            repeat (go_quiet (fail); try go_wp2)
            go_meet
            case rel => exact ⟨_, (false), (by first | rfl | (simp; done) | (simp [*]; done)), H', ⟨by first | omega | exact Nat.le_refl _⟩, by repeat (first | exact Drawn0.refl _ | apply Drawn0.step)⟩
        · rw [if_neg c5] at H
          exact absurd H (by simp)
      · rw [if_neg c4] at H
        have c4b0 : decide (1 < (a0.size : Int)) = false := decide_eq_false c4
        have c4b1 : decide (1 < a0.size) = false := decide_eq_false (by omega)
        clear c4
        (first | rw [c4b0] | (simp only [i64_w, i32_w]; rw [c4b0]) | skip)
        have H' := Aside0.mk H
        clear H
        go_wp2
        repeat (go_quiet (fail); try go_wp2)
        go_meet
        case rel => exact ⟨_, (false), (by first | rfl | (simp; done) | (simp [*]; done)), H', ⟨by first | omega | exact Nat.le_refl _⟩, by repeat (first | exact Drawn0.refl _ | apply Drawn0.step)⟩
    case rest =>
      clear HC3
      try clear c1
      try clear p1
      try clear q1
      try clear hx1
      try clear qi1
      try clear p2
      try clear c4
      try clear c4b0
      try clear c4b1
      try clear c5
      try clear c5b0
      try clear c5b1
      try clear p6
      try clear q6
      try clear hx6
      try clear qi6
      try clear c7
      try clear c7b0
      try clear c7b1
      try clear c8
      try clear c8b0
      try clear c8b1
      try clear p9
      try clear q9
      try clear hx9
      try clear qi9
      try clear c10
      try clear c10b0
      try clear c10b1
      try clear p11
      try clear q11
      try clear hx11
      try clear qi11
      try clear p11
      try clear p6
      try clear p9
      try clear q11
      try clear q6
      try clear q9
      obtain ⟨kq, x10_2, rfl, HA, HJ2, ⟨mc2, rfl⟩⟩ := hcut
      cases kq with
      | zero => exact absurd HA.out (by simp [scan_worth.j0])
      | succ kj2 =>
        have H := HA.out
        clear HA
        simp only [scan_worth.j0] at H
        by_cases c12 : x10_2 = true
        · subst c12
          have H1 : (if 2 ≤ (a0.size : Int) then (scan_worth.j1 kj2 16 (a0.extract 2 a0.size)) else (none)) = some (r1, r2) := by rw [if_pos rfl] at H; exact H
          clear H
          have H := H1
          clear H1
          by_cases c13 : 2 ≤ (a0.size : Int)
          · rw [if_pos c13] at H
            have c13b0 := eq_true c13
            have c13b1 : decide (2 ≤ (a0.size : Int)) = true := decide_eq_true c13
            clear c13
            have H' := Aside0.mk H
            clear H
            go_wp2
            repeat (go_quiet (fail); try go_wp2)
            go_meet
            case rel => exact ⟨_, (16), (a0.extract 2 a0.size), (by first | rfl | (simp; done) | (simp [*]; done)), (by first | rfl | (simp; done) | (simp [*]; done)), H', ⟨by have := HJ2.out; first | omega | exact Nat.le_refl _⟩, by repeat (first | exact Drawn0.refl _ | apply Drawn0.step)⟩
          · rw [if_neg c13] at H
            exact absurd H (by simp)
        · replace c12 := Bool.eq_false_iff.mpr c12
          subst c12
          have H1 : (if (a0.size : Int) > 1 then (if 0 < (a0.size : Int) then (if (bt a0 0) = 48 then (if 1 ≤ (a0.size : Int) then (scan_worth.j1 kj2 8 (a0.extract 1 a0.size)) else (none)) else (scan_worth.j1 kj2 10 a0)) else (none)) else (scan_worth.j1 kj2 10 a0)) = some (r1, r2) := by rw [if_neg (show ¬ (false = true) by decide)] at H; exact H
          clear H
          have H := H1
          clear H1
          by_cases c14 : (a0.size : Int) > 1
          · rw [if_pos c14] at H
            have c14b0 : decide (1 < (a0.size : Int)) = true := decide_eq_true c14
            have c14b1 : decide (1 < a0.size) = true := decide_eq_true (by omega)
            clear c14
            by_cases c15 : 0 < (a0.size : Int)
            · rw [if_pos c15] at H
              have c15b0 : decide (0 < (a0.size : Int)) = true := decide_eq_true c15
              have c15b1 : decide (0 < a0.size) = true := decide_eq_true (by omega)
              clear c15
              by_cases c17 : (bt a0 0) = 48
              · rw [if_pos c17] at H
                have c17b0 : ((bt a0 0) == 48) = true := beq_iff_eq.mpr c17
                have c17b1 : ((bt a0 0) != 48) = false := bne_eq_false_iff_eq.mpr c17
                clear c17
                by_cases c18 : 1 ≤ (a0.size : Int)
                · rw [if_pos c18] at H
                  have c18b0 := eq_true c18
                  have c18b1 : decide (1 ≤ (a0.size : Int)) = true := decide_eq_true c18
                  clear c18
                  have H' := Aside0.mk H
                  clear H
                  have p16 : 0 ≤ (0 : Int) := (by omega)
                  have q16 : 0 < a0.size := (by have : (0 : Int) < (a0.size : Int) := of_decide_eq_true (by first | (with_reducible assumption) | assumption); omega)
                  have hx16 : ∀ h : 0 < a0.size, ((a0[0]'h).toNat : Int) = bt a0 0 := bt_at a0 0
                  clear p16
                  have qi16 : (0 < (a0.size : Int)) = True := eq_true (of_decide_eq_true (by first | (with_reducible assumption) | assumption))
                  replace q16 := eq_true q16
                  go_wp2
                  repeat (go_quiet (fail); try go_wp2)
                  go_meet
                  case rel => exact ⟨_, (8), (a0.extract 1 a0.size), (by first | rfl | (simp; done) | (simp [*]; done)), (by first | rfl | (simp; done) | (simp [*]; done)), H', ⟨by have := HJ2.out; first | omega | exact Nat.le_refl _⟩, by repeat (first | exact Drawn0.refl _ | apply Drawn0.step)⟩
                · rw [if_neg c18] at H
                  exact absurd H (by simp)
              · rw [if_neg c17] at H
                have c17b0 : ((bt a0 0) == 48) = false := beq_eq_false_iff_ne.mpr c17
                have c17b1 : ((bt a0 0) != 48) = true := bne_iff_ne.mpr c17
                have H' := Aside0.mk H
                clear H
                have p16 : 0 ≤ (0 : Int) := (by omega)
                have q16 : 0 < a0.size := (by have : (0 : Int) < (a0.size : Int) := of_decide_eq_true (by first | (with_reducible assumption) | assumption); omega)
                have hx16 : ∀ h : 0 < a0.size, ((a0[0]'h).toNat : Int) = bt a0 0 := bt_at a0 0
                clear p16
                have qi16 : (0 < (a0.size : Int)) = True := eq_true (of_decide_eq_true (by first | (with_reducible assumption) | assumption))
                replace q16 := eq_true q16
                go_wp2
                repeat (go_quiet (fail); try go_wp2)
                go_meet
                case rel => exact ⟨_, (10), (a0), (by first | rfl | (simp; done) | (simp [*]; done)), (by first | rfl | (simp; done) | (simp [*]; done)), H', ⟨by have := HJ2.out; first | omega | exact Nat.le_refl _⟩, by repeat (first | exact Drawn0.refl _ | apply Drawn0.step)⟩
            · rw [if_neg c15] at H
              exact absurd H (by simp)
          · rw [if_neg c14] at H
            have c14b0 : decide (1 < (a0.size : Int)) = false := decide_eq_false c14
            have c14b1 : decide (1 < a0.size) = false := decide_eq_false (by omega)
            clear c14
            have H' := Aside0.mk H
            clear H
            go_wp2
            repeat (go_quiet (fail); try go_wp2)
            go_meet
            case rel => exact ⟨_, (10), (a0), (by first | rfl | (simp; done) | (simp [*]; done)), (by first | rfl | (simp; done) | (simp [*]; done)), H', ⟨by have := HJ2.out; first | omega | exact Nat.le_refl _⟩, by repeat (first | exact Drawn0.refl _ | apply Drawn0.step)⟩
  case rest =>
    clear HC2
    try clear c1
    try clear p1
    try clear q1
    try clear hx1
    try clear qi1
    try clear c2
    try clear p2
    try clear c4
    try clear c4b0
    try clear c4b1
    try clear c5
    try clear c5b0
    try clear c5b1
    try clear p6
    try clear q6
    try clear hx6
    try clear qi6
    try clear c7
    try clear c7b0
    try clear c7b1
    try clear c8
    try clear c8b0
    try clear c8b1
    try clear p9
    try clear q9
    try clear hx9
    try clear qi9
    try clear c10
    try clear c10b0
    try clear c10b1
    try clear p11
    try clear q11
    try clear hx11
    try clear qi11
    try clear c12
    try clear c13
    try clear c13b0
    try clear c13b1
    try clear c14
    try clear c14b0
    try clear c14b1
    try clear c15
    try clear c15b0
    try clear c15b1
    try clear p16
    try clear q16
    try clear hx16
    try clear qi16
    try clear c17
    try clear c17b0
    try clear c17b1
    try clear c18
    try clear c18b0
    try clear c18b1
    try clear p1
    try clear p11
    try clear p16
    try clear p2
    try clear p6
    try clear p9
    try clear q1
    try clear q11
    try clear q16
    try clear q6
    try clear q9
    obtain ⟨kq, x4_1, x5_1, rfl, rfl, HA, HJ1, ⟨mc1, rfl⟩⟩ := hcut
    cases kq with
    | zero => exact absurd HA.out (by simp [scan_worth.j1])
    | succ kj1 =>
      have H := HA.out
      clear HA
      simp only [scan_worth.j1] at H
      have H' := Aside0.mk H
      clear H
      go_wp2
      repeat (go_quiet (fail); try go_wp2)
      go_loopg [6, 44] kj1 (fun kq v6 v44 w' => ∃ (x6_2 : Int) (x44_2 : Int), v6 = .int .i64 x6_2 ∧ v44 = .int .i64 x44_2 ∧ Aside0 (scan_worth.l0 kq x4_1 x5_1 x6_2 (x5_1.size : Int) x44_2 = some (r1, r2)) ∧ Aside0 (kq ≤ kj1) ∧ Drawn0 w w')
      case atStart => exact ⟨(0), (0), (by first | rfl | (simp; done) | (simp [*]; done)), (by first | rfl | (simp; done) | (simp [*]; done)), H', ⟨Nat.le_refl _⟩, by repeat (first | exact Drawn0.refl _ | apply Drawn0.step)⟩
      case round =>
        clear H'
        try clear c1
        try clear p1
        try clear q1
        try clear hx1
        try clear qi1
        try clear c2
        try clear p2
        try clear c4
        try clear c4b0
        try clear c4b1
        try clear c5
        try clear c5b0
        try clear c5b1
        try clear p6
        try clear q6
        try clear hx6
        try clear qi6
        try clear c7
        try clear c7b0
        try clear c7b1
        try clear c8
        try clear c8b0
        try clear c8b1
        try clear p9
        try clear q9
        try clear hx9
        try clear qi9
        try clear c10
        try clear c10b0
        try clear c10b1
        try clear p11
        try clear q11
        try clear hx11
        try clear qi11
        try clear c12
        try clear c13
        try clear c13b0
        try clear c13b1
        try clear c14
        try clear c14b0
        try clear c14b1
        try clear c15
        try clear c15b0
        try clear c15b1
        try clear p16
        try clear q16
        try clear hx16
        try clear qi16
        try clear c17
        try clear c17b0
        try clear c17b1
        try clear c18
        try clear c18b0
        try clear c18b1
        try clear p1
        try clear p11
        try clear p16
        try clear p2
        try clear p6
        try clear p9
        try clear q1
        try clear q11
        try clear q16
        try clear q6
        try clear q9
        obtain ⟨x6_2, x44_2, rfl, rfl, HA, HK2, ⟨m2, rfl⟩⟩ := hrel
        cases gk with
        | zero => exact absurd HA.out (by simp [scan_worth.l0])
        | succ k2 =>
          have H := HA.out
          clear HA
          simp only [scan_worth.l0] at H
          by_cases c19 : x44_2 < (x5_1.size : Int)
          · rw [if_pos c19] at H
            have c19b0 : decide (x44_2 < (x5_1.size : Int)) = true := decide_eq_true c19
            clear c19
            by_cases c20 : 0 ≤ x44_2
            · rw [if_pos c20] at H
              have c20b0 : decide (0 ≤ x44_2) = true := decide_eq_true c20
              clear c20
              by_cases c21 : x44_2 < (x5_1.size : Int)
              · rw [if_pos c21] at H
                have c21b0 : decide (x44_2 < (x5_1.size : Int)) = true := decide_eq_true c21
                clear c21
                replace H := Option.bind_eq_some_iff.mp H
                obtain ⟨t150, A230, H⟩ := H
                replace H : (if t150 ≥ x4_1 then (some (0, false)) else (if x4_1 = 0 then (none) else (if x6_2 > (wrap64 (Int.tdiv (wrap64 (9223372036854775807 - t150)) x4_1)) then (some (0, false)) else (scan_worth.l0 k2 x4_1 x5_1 (wrap64 ((wrap64 (x6_2 * x4_1)) + t150)) (x5_1.size : Int) (wrap64 (x44_2 + 1)))))) = some (r1, r2) := H
                have A23 := Aside0.mk A230
                clear A230
                by_cases c24 : t150 ≥ x4_1
                · rw [if_pos c24] at H
                  have c24b0 : decide (x4_1 ≤ t150) = true := decide_eq_true c24
                  clear c24
                  simp only [Option.some.injEq, Prod.mk.injEq] at H
                  obtain ⟨rfl, rfl⟩ := H
                  have p22 : 0 ≤ (x44_2 : Int) := of_decide_eq_true (by first | (with_reducible assumption) | assumption)
                  have q22 : x44_2 < (x5_1.size : Int) := of_decide_eq_true (by first | (with_reducible assumption) | assumption)
                  have hx22 := bt_at x5_1 x44_2
                  replace p22 := eq_true p22
                  replace q22 := eq_true q22
                  go_wp2_with (first | (go_at_call 73; (with_reducible refine (scan_value.calls k2 (bt x5_1 x44_2) t150 _ A23.out).mono ?_); rintro e w' ⟨rfl, ⟨nd, rfl⟩⟩; (try first | exact ⟨rfl, _, World.drewN_drewN _ _ _⟩ | exact ⟨rfl, _, Eq.trans (World.drewN_drewN _ _ _) (congrArg (World.drewN _) (Nat.add_assoc _ _ _))⟩)))
                  repeat (go_quiet (first | (go_at_call 73; (with_reducible refine (scan_value.calls k2 (bt x5_1 x44_2) t150 _ A23.out).mono ?_); rintro e w' ⟨rfl, ⟨nd, rfl⟩⟩; (try first | exact ⟨rfl, _, World.drewN_drewN _ _ _⟩ | exact ⟨rfl, _, Eq.trans (World.drewN_drewN _ _ _) (congrArg (World.drewN _) (Nat.add_assoc _ _ _))⟩))); try go_wp2_with (first | (go_at_call 73; (with_reducible refine (scan_value.calls k2 (bt x5_1 x44_2) t150 _ A23.out).mono ?_); rintro e w' ⟨rfl, ⟨nd, rfl⟩⟩; (try first | exact ⟨rfl, _, World.drewN_drewN _ _ _⟩ | exact ⟨rfl, _, Eq.trans (World.drewN_drewN _ _ _) (congrArg (World.drewN _) (Nat.add_assoc _ _ _))⟩))))
                  go_ret2
                  exact ⟨by first | rfl | (simp; done) | (simp [*]; done), by repeat (first | exact Drawn0.refl _ | apply Drawn0.step)⟩
                · rw [if_neg c24] at H
                  have c24b0 : decide (x4_1 ≤ t150) = false := decide_eq_false c24
                  clear c24
                  by_cases c25 : x4_1 = 0
                  · rw [if_pos c25] at H
                    exact absurd H (by simp)
                  · rw [if_neg c25] at H
                    have c25b0 : (x4_1 == 0) = false := beq_eq_false_iff_ne.mpr c25
                    have c25b1 : (x4_1 != 0) = true := bne_iff_ne.mpr c25
                    by_cases c26 : x6_2 > (wrap64 (Int.tdiv (wrap64 (9223372036854775807 - t150)) x4_1))
                    · rw [if_pos c26] at H
                      have c26b0 : decide ((wrap64 (Int.tdiv (wrap64 (9223372036854775807 - t150)) x4_1)) < x6_2) = true := decide_eq_true c26
                      clear c26
                      simp only [Option.some.injEq, Prod.mk.injEq] at H
                      obtain ⟨rfl, rfl⟩ := H
                      have p22 : 0 ≤ (x44_2 : Int) := of_decide_eq_true (by first | (with_reducible assumption) | assumption)
                      have q22 : x44_2 < (x5_1.size : Int) := of_decide_eq_true (by first | (with_reducible assumption) | assumption)
                      have hx22 := bt_at x5_1 x44_2
                      replace p22 := eq_true p22
                      replace q22 := eq_true q22
                      go_wp2_with (first | (go_at_call 73; (with_reducible refine (scan_value.calls k2 (bt x5_1 x44_2) t150 _ A23.out).mono ?_); rintro e w' ⟨rfl, ⟨nd, rfl⟩⟩; (try first | exact ⟨rfl, _, World.drewN_drewN _ _ _⟩ | exact ⟨rfl, _, Eq.trans (World.drewN_drewN _ _ _) (congrArg (World.drewN _) (Nat.add_assoc _ _ _))⟩)))
                      repeat (go_quiet (first | (go_at_call 73; (with_reducible refine (scan_value.calls k2 (bt x5_1 x44_2) t150 _ A23.out).mono ?_); rintro e w' ⟨rfl, ⟨nd, rfl⟩⟩; (try first | exact ⟨rfl, _, World.drewN_drewN _ _ _⟩ | exact ⟨rfl, _, Eq.trans (World.drewN_drewN _ _ _) (congrArg (World.drewN _) (Nat.add_assoc _ _ _))⟩))); try go_wp2_with (first | (go_at_call 73; (with_reducible refine (scan_value.calls k2 (bt x5_1 x44_2) t150 _ A23.out).mono ?_); rintro e w' ⟨rfl, ⟨nd, rfl⟩⟩; (try first | exact ⟨rfl, _, World.drewN_drewN _ _ _⟩ | exact ⟨rfl, _, Eq.trans (World.drewN_drewN _ _ _) (congrArg (World.drewN _) (Nat.add_assoc _ _ _))⟩))))
                      go_ret2
                      exact ⟨by first | rfl | (simp; done) | (simp [*]; done), by repeat (first | exact Drawn0.refl _ | apply Drawn0.step)⟩
                    · rw [if_neg c26] at H
                      have c26b0 : decide ((wrap64 (Int.tdiv (wrap64 (9223372036854775807 - t150)) x4_1)) < x6_2) = false := decide_eq_false c26
                      clear c26
                      have H' := Aside0.mk H
                      clear H
                      have p22 : 0 ≤ (x44_2 : Int) := of_decide_eq_true (by first | (with_reducible assumption) | assumption)
                      have q22 : x44_2 < (x5_1.size : Int) := of_decide_eq_true (by first | (with_reducible assumption) | assumption)
                      have hx22 := bt_at x5_1 x44_2
                      replace p22 := eq_true p22
                      replace q22 := eq_true q22
                      go_wp2_with (first | (go_at_call 73; (with_reducible refine (scan_value.calls k2 (bt x5_1 x44_2) t150 _ A23.out).mono ?_); rintro e w' ⟨rfl, ⟨nd, rfl⟩⟩; (try first | exact ⟨rfl, _, World.drewN_drewN _ _ _⟩ | exact ⟨rfl, _, Eq.trans (World.drewN_drewN _ _ _) (congrArg (World.drewN _) (Nat.add_assoc _ _ _))⟩)))
                      repeat (go_quiet (first | (go_at_call 73; (with_reducible refine (scan_value.calls k2 (bt x5_1 x44_2) t150 _ A23.out).mono ?_); rintro e w' ⟨rfl, ⟨nd, rfl⟩⟩; (try first | exact ⟨rfl, _, World.drewN_drewN _ _ _⟩ | exact ⟨rfl, _, Eq.trans (World.drewN_drewN _ _ _) (congrArg (World.drewN _) (Nat.add_assoc _ _ _))⟩))); try go_wp2_with (first | (go_at_call 73; (with_reducible refine (scan_value.calls k2 (bt x5_1 x44_2) t150 _ A23.out).mono ?_); rintro e w' ⟨rfl, ⟨nd, rfl⟩⟩; (try first | exact ⟨rfl, _, World.drewN_drewN _ _ _⟩ | exact ⟨rfl, _, Eq.trans (World.drewN_drewN _ _ _) (congrArg (World.drewN _) (Nat.add_assoc _ _ _))⟩))))
                      go_roundg k2
                      case measure => have := HJ1.out; have := HK2.out; omega
                      case rel => exact ⟨(wrap64 ((wrap64 (x6_2 * x4_1)) + t150)), (wrap64 (x44_2 + 1)), (by first | rfl | (simp; done) | (simp [*]; done)), (by first | rfl | (simp; done) | (simp [*]; done)), H', ⟨by have := HJ1.out; have := HK2.out; omega⟩, by repeat (first | exact Drawn0.refl _ | apply Drawn0.step)⟩
              · rw [if_neg c21] at H
                exact absurd H (by simp)
            · rw [if_neg c20] at H
              exact absurd H (by simp)
          · rw [if_neg c19] at H
            have c19b0 : decide (x44_2 < (x5_1.size : Int)) = false := decide_eq_false c19
            clear c19
            simp only [Option.some.injEq, Prod.mk.injEq] at H
            obtain ⟨rfl, rfl⟩ := H
            go_wp2
            repeat (go_quiet (fail); try go_wp2)
            go_ret2
            exact ⟨by first | rfl | (simp; done) | (simp [*]; done), by repeat (first | exact Drawn0.refl _ | apply Drawn0.step)⟩

/-! ### scan_number: function 61 -/
def scan_number.f (k : Nat) (a0 : ByteArray) : Option (Int × Int × Int) := (scan_row.f k a0).bind fun t152 => (if 0 ≤ t152 then (if t152 ≤ (a0.size : Int) then ((scan_worth.f k (a0.extract 0 (t152 : Int).toNat)).bind fun bt153 => (if bt153.2 = true then (some (2, t152, 0)) else (some (0, 0, 41)))) else (none)) else (none))
theorem scan_number.mono : ∀ a0 k, LeO (scan_number.f k a0) (scan_number.f (k + 1) a0) := by
  intro a0 k
  unfold scan_number.f
  repeat' first
      | (with_reducible exact scan_row.mono _ _)
      | (with_reducible exact scan_worth.mono _ _)
      | (with_reducible exact LeO.refl _)
      | (with_reducible exact LeO.none _)
      | (with_reducible refine LeO.ite ?_ ?_)
      | (with_reducible refine LeO.bind ?_ (fun _ => ?_))
      | exact scan_row.mono _ _
      | exact scan_worth.mono _ _
      | exact LeO.none _
      | refine LeO.ite ?_ ?_
      | refine LeO.bind ?_ (fun _ => ?_)
set_option maxHeartbeats 8000000 in
set_option maxRecDepth 100000 in
theorem scan_number.calls (k : Nat) (a0 : ByteArray) (r1 : Int) (r2 : Int) (r3 : Int) (w : World) (h : scan_number.f k a0 = some (r1, r2, r3)) :
    Calls Tryd.prog 61 #[.string a0] w fun e w' => e = .returned (.agg #[.int .i64 r1, .int .i64 r2, .int .i64 r3]) ∧ Below w.heap.size w w' := by
  have hu77 := Tryd.underlying77
  have HB := Aside0.mk (Below.refl w.heap.size w)
  have H : ((scan_row.f k a0).bind fun t152 => (if 0 ≤ t152 then (if t152 ≤ (a0.size : Int) then ((scan_worth.f k (a0.extract 0 (t152 : Int).toNat)).bind fun bt153 => (if bt153.2 = true then (some (2, t152, 0)) else (some (0, 0, 41)))) else (none)) else (none))) = some (r1, r2, r3) := h
  clear h
  replace H := Option.bind_eq_some_iff.mp H
  obtain ⟨t152, A20, H⟩ := H
  replace H : (if 0 ≤ t152 then (if t152 ≤ (a0.size : Int) then ((scan_worth.f k (a0.extract 0 (t152 : Int).toNat)).bind fun bt153 => (if bt153.2 = true then (some (2, t152, 0)) else (some (0, 0, 41)))) else (none)) else (none)) = some (r1, r2, r3) := H
  have A2 := Aside0.mk A20
  clear A20
  by_cases c3 : 0 ≤ t152
  · rw [if_pos c3] at H
    have c3b0 := eq_true c3
    have c3b1 : decide (0 ≤ t152) = true := decide_eq_true c3
    clear c3
    by_cases c4 : t152 ≤ (a0.size : Int)
    · rw [if_pos c4] at H
      have c4b0 := eq_true c4
      have c4b1 : decide (t152 ≤ (a0.size : Int)) = true := decide_eq_true c4
      clear c4
      replace H := Option.bind_eq_some_iff.mp H
      obtain ⟨⟨t153, t154⟩, A50, H⟩ := H
      replace H : (if t154 = true then (some (2, t152, 0)) else (some (0, 0, 41))) = some (r1, r2, r3) := H
      have A5 := Aside0.mk A50
      clear A50
      by_cases c6 : t154 = true
      · subst c6
        have H1 : (some (2, t152, 0)) = some (r1, r2, r3) := by rw [if_pos rfl] at H; exact H
        clear H
        have H := H1
        clear H1
        simp only [Option.some.injEq, Prod.mk.injEq] at H
        obtain ⟨rfl, rfl, rfl⟩ := H
        go_enter Tryd.func61, Tryd.ntmps61
        go_wp2_with (first | ((with_reducible refine gate_dst (N := 2) rfl ?_); refine box_event ?hg (N := 2) ?hd (cs := #[.int .i64 0, .int .i64 0, .int .i64 0]) (t := 77) ?hr ?_; (case hd => rfl); (case hg => rfl); (case hr => first | (go_simp; done) | (go_simp; rfl)); intro gb151 hg w7 hbox hb; have n0_ := Aside0.mk (below_step (by repeat (first | (with_reducible first | exact HB.out | apply below_alloc | apply pw_below_drewN | apply below_drew1) | exact HB.out)) hb); have n1_ := Aside0.mk (hbox); have n2_ := Aside0.mk ((by rw [hg]; exact (below_size (by repeat (first | (with_reducible first | exact HB.out | apply below_alloc | apply pw_below_drewN | apply below_drew1) | exact HB.out))) : w.heap.size ≤ gb151)); have n3_ := Aside0.mk ((by rw [hg]; exact (below_size (by repeat (first | (with_reducible first | exact HB.out | apply below_alloc | apply pw_below_drewN | apply below_drew1) | exact HB.out))) : w.heap.size ≤ gb151)); clear HB; have HB := n0_; have BK151 := n1_; have GW151 := n2_; have GE151 := n3_; clear n0_ n1_ n2_ n3_; clear hb hbox hg) | ((with_reducible refine gate_callee (f := 60) rfl ?_); refine goesL_ (some 7) rfl rfl Tryd.func60 (by kernel_rfl) rfl #[.string a0] rfl (by (try simp only [List.map_toArray, List.map_cons, List.map_nil]); first | done | rfl | (simp only [List.length_drop, List.length_take]; rfl)) ?_; (with_reducible refine (scan_row.calls k a0 t152 _ A2.out).mono ?_); rintro e w' ⟨rfl, ⟨nd, rfl⟩⟩; refine ⟨_, rfl, ?_⟩; (try (rw [drewN_self w7]; generalize hq_ : World.drewN w7 _ = w7; have n0_ : Aside0 (w7.heap[gb151]? = some (.cells #[.int .i64 0, .int .i64 0, .int .i64 0] 77 (0, 0))) := ⟨by rw [← hq_]; exact (by (with_reducible repeat (first | refine blk_drewN ?_ _ | refine blk_drew ?_ | refine blk_alloc ?_ _)); exact BK151.out)⟩; have n1_ : Aside0 (Below w.heap.size w w7) := ⟨by rw [← hq_]; exact (by repeat (first | (with_reducible first | exact HB.out | apply below_alloc | apply pw_below_drewN | apply below_drew1 | refine below_set ?_ GE151.out) | exact HB.out))⟩; clear BK151 HB hq_; have BK151 := n0_; have HB := n1_; clear n0_ n1_))) | ((with_reducible refine gate_callee (f := 80) rfl ?_); refine goesL_ (some 12) rfl rfl Tryd.func80 (by kernel_rfl) rfl #[.string (a0.extract 0 (t152 : Int).toNat)] rfl (by (try simp only [List.map_toArray, List.map_cons, List.map_nil]); first | done | rfl | (simp only [List.length_drop, List.length_take]; rfl)) ?_; (with_reducible refine (scan_worth.calls k (a0.extract 0 (t152 : Int).toNat) t153 true _ A5.out).mono ?_); rintro e w' ⟨rfl, ⟨nd, rfl⟩⟩; refine ⟨_, rfl, ?_⟩; (try (rw [drewN_self w7]; generalize hq_ : World.drewN w7 _ = w7; have n0_ : Aside0 (w7.heap[gb151]? = some (.cells #[.int .i64 0, .int .i64 0, .int .i64 0] 77 (0, 0))) := ⟨by rw [← hq_]; exact (by (with_reducible repeat (first | refine blk_drewN ?_ _ | refine blk_drew ?_ | refine blk_alloc ?_ _)); exact BK151.out)⟩; have n1_ : Aside0 (Below w.heap.size w w7) := ⟨by rw [← hq_]; exact (by repeat (first | (with_reducible first | exact HB.out | apply below_alloc | apply pw_below_drewN | apply below_drew1 | refine below_set ?_ GE151.out) | exact HB.out))⟩; clear BK151 HB hq_; have BK151 := n0_; have HB := n1_; clear n0_ n1_)); have hcz8_0 : w7.cell? ⟨gb151, 0, none⟩ = some (.int .i64 0) := (blk_cell BK151.out 0).trans rfl; have hcz8_1 : w7.cell? ⟨gb151, 1, none⟩ = some (.int .i64 0) := (blk_cell BK151.out 1).trans rfl; have hcz8_2 : w7.cell? ⟨gb151, 2, none⟩ = some (.int .i64 0) := (blk_cell BK151.out 2).trans rfl; have hfz8_0 := blk_frozen BK151.out 0; have hfz8_1 := blk_frozen BK151.out 1; have hfz8_2 := blk_frozen BK151.out 2))
        refine bodyPost_ret (results_cell_row rfl _ _ gb151 77 #[.int .i64 2, .int .i64 t152, .int .i64 0] (0, 0) _ rfl (by (with_reducible repeat (first | refine blk_drewN ?_ _ | refine blk_drew ?_ | refine blk_alloc ?_ _)); refine blk_put (cs := #[.int .i64 2, .int .i64 t152, .int .i64 0]) ?_ 2 _ rfl; (with_reducible repeat (first | refine blk_drewN ?_ _ | refine blk_drew ?_ | refine blk_alloc ?_ _)); refine blk_put (cs := #[.int .i64 2, .int .i64 0, .int .i64 0]) ?_ 1 _ rfl; (with_reducible repeat (first | refine blk_drewN ?_ _ | refine blk_drew ?_ | refine blk_alloc ?_ _)); refine blk_put (cs := #[.int .i64 0, .int .i64 0, .int .i64 0]) ?_ 0 _ rfl; (with_reducible repeat (first | refine blk_drewN ?_ _ | refine blk_drew ?_ | refine blk_alloc ?_ _)); exact BK151.out) Tryd.underlying77 rfl (by kernel_rfl)) rfl ?_
        exact ⟨by first | rfl | (simp [errW_none, errW_some] <;> rfl) | (simp [*, errW_none, errW_some] <;> rfl), by repeat (first | (with_reducible first | exact HB.out | apply below_alloc | apply pw_below_drewN | apply below_drew1 | refine below_set ?_ GE151.out) | exact HB.out)⟩
      · replace c6 := Bool.eq_false_iff.mpr c6
        subst c6
        have H1 : (some (0, 0, 41)) = some (r1, r2, r3) := by rw [if_neg (show ¬ (false = true) by decide)] at H; exact H
        clear H
        have H := H1
        clear H1
        simp only [Option.some.injEq, Prod.mk.injEq] at H
        obtain ⟨rfl, rfl, rfl⟩ := H
        go_enter Tryd.func61, Tryd.ntmps61
        go_wp2_with (first | ((with_reducible refine gate_dst (N := 2) rfl ?_); refine box_event ?hg (N := 2) ?hd (cs := #[.int .i64 0, .int .i64 0, .int .i64 0]) (t := 77) ?hr ?_; (case hd => rfl); (case hg => rfl); (case hr => first | (go_simp; done) | (go_simp; rfl)); intro gb151 hg w9 hbox hb; have n0_ := Aside0.mk (below_step (by repeat (first | (with_reducible first | exact HB.out | apply below_alloc | apply pw_below_drewN | apply below_drew1) | exact HB.out)) hb); have n1_ := Aside0.mk (hbox); have n2_ := Aside0.mk ((by rw [hg]; exact (below_size (by repeat (first | (with_reducible first | exact HB.out | apply below_alloc | apply pw_below_drewN | apply below_drew1) | exact HB.out))) : w.heap.size ≤ gb151)); have n3_ := Aside0.mk ((by rw [hg]; exact (below_size (by repeat (first | (with_reducible first | exact HB.out | apply below_alloc | apply pw_below_drewN | apply below_drew1) | exact HB.out))) : w.heap.size ≤ gb151)); clear HB; have HB := n0_; have BK151 := n1_; have GW151 := n2_; have GE151 := n3_; clear n0_ n1_ n2_ n3_; clear hb hbox hg) | ((with_reducible refine gate_callee (f := 60) rfl ?_); refine goesL_ (some 7) rfl rfl Tryd.func60 (by kernel_rfl) rfl #[.string a0] rfl (by (try simp only [List.map_toArray, List.map_cons, List.map_nil]); first | done | rfl | (simp only [List.length_drop, List.length_take]; rfl)) ?_; (with_reducible refine (scan_row.calls k a0 t152 _ A2.out).mono ?_); rintro e w' ⟨rfl, ⟨nd, rfl⟩⟩; refine ⟨_, rfl, ?_⟩; (try (rw [drewN_self w9]; generalize hq_ : World.drewN w9 _ = w9; have n0_ : Aside0 (w9.heap[gb151]? = some (.cells #[.int .i64 0, .int .i64 0, .int .i64 0] 77 (0, 0))) := ⟨by rw [← hq_]; exact (by (with_reducible repeat (first | refine blk_drewN ?_ _ | refine blk_drew ?_ | refine blk_alloc ?_ _)); exact BK151.out)⟩; have n1_ : Aside0 (Below w.heap.size w w9) := ⟨by rw [← hq_]; exact (by repeat (first | (with_reducible first | exact HB.out | apply below_alloc | apply pw_below_drewN | apply below_drew1 | refine below_set ?_ GE151.out) | exact HB.out))⟩; clear BK151 HB hq_; have BK151 := n0_; have HB := n1_; clear n0_ n1_))) | ((with_reducible refine gate_callee (f := 80) rfl ?_); refine goesL_ (some 12) rfl rfl Tryd.func80 (by kernel_rfl) rfl #[.string (a0.extract 0 (t152 : Int).toNat)] rfl (by (try simp only [List.map_toArray, List.map_cons, List.map_nil]); first | done | rfl | (simp only [List.length_drop, List.length_take]; rfl)) ?_; (with_reducible refine (scan_worth.calls k (a0.extract 0 (t152 : Int).toNat) t153 false _ A5.out).mono ?_); rintro e w' ⟨rfl, ⟨nd, rfl⟩⟩; refine ⟨_, rfl, ?_⟩; (try (rw [drewN_self w9]; generalize hq_ : World.drewN w9 _ = w9; have n0_ : Aside0 (w9.heap[gb151]? = some (.cells #[.int .i64 0, .int .i64 0, .int .i64 0] 77 (0, 0))) := ⟨by rw [← hq_]; exact (by (with_reducible repeat (first | refine blk_drewN ?_ _ | refine blk_drew ?_ | refine blk_alloc ?_ _)); exact BK151.out)⟩; have n1_ : Aside0 (Below w.heap.size w w9) := ⟨by rw [← hq_]; exact (by repeat (first | (with_reducible first | exact HB.out | apply below_alloc | apply pw_below_drewN | apply below_drew1 | refine below_set ?_ GE151.out) | exact HB.out))⟩; clear BK151 HB hq_; have BK151 := n0_; have HB := n1_; clear n0_ n1_)); have hcz10_0 : w9.cell? ⟨gb151, 0, none⟩ = some (.int .i64 0) := (blk_cell BK151.out 0).trans rfl; have hcz10_1 : w9.cell? ⟨gb151, 1, none⟩ = some (.int .i64 0) := (blk_cell BK151.out 1).trans rfl; have hcz10_2 : w9.cell? ⟨gb151, 2, none⟩ = some (.int .i64 0) := (blk_cell BK151.out 2).trans rfl; have hfz10_0 := blk_frozen BK151.out 0; have hfz10_1 := blk_frozen BK151.out 1; have hfz10_2 := blk_frozen BK151.out 2))
        refine bodyPost_ret (results_cell_row rfl _ _ gb151 77 #[.int .i64 0, .int .i64 0, .int .i64 41] (0, 0) _ rfl (by (with_reducible repeat (first | refine blk_drewN ?_ _ | refine blk_drew ?_ | refine blk_alloc ?_ _)); refine blk_put (cs := #[.int .i64 0, .int .i64 0, .int .i64 0]) ?_ 2 _ rfl; (with_reducible repeat (first | refine blk_drewN ?_ _ | refine blk_drew ?_ | refine blk_alloc ?_ _)); refine blk_put (cs := #[.int .i64 0, .int .i64 0, .int .i64 0]) ?_ 1 _ rfl; (with_reducible repeat (first | refine blk_drewN ?_ _ | refine blk_drew ?_ | refine blk_alloc ?_ _)); refine blk_put (cs := #[.int .i64 0, .int .i64 0, .int .i64 0]) ?_ 0 _ rfl; (with_reducible repeat (first | refine blk_drewN ?_ _ | refine blk_drew ?_ | refine blk_alloc ?_ _)); exact BK151.out) Tryd.underlying77 rfl (by kernel_rfl)) rfl ?_
        exact ⟨by first | rfl | (simp [errW_none, errW_some] <;> rfl) | (simp [*, errW_none, errW_some] <;> rfl), by repeat (first | (with_reducible first | exact HB.out | apply below_alloc | apply pw_below_drewN | apply below_drew1 | refine below_set ?_ GE151.out) | exact HB.out)⟩
    · rw [if_neg c4] at H
      exact absurd H (by simp)
  · rw [if_neg c3] at H
    exact absurd H (by simp)

/-! ### scan_str: function 62 -/
def scan_str.f (k : Nat) (a0 : ByteArray) : Option (Int × Int × Int) := (scan_unquoted.f k a0).bind fun bt156 => (if bt156.2.2 = true then (some (3, bt156.2.1, 0)) else (some (0, 0, 42)))
theorem scan_str.mono : ∀ a0 k, LeO (scan_str.f k a0) (scan_str.f (k + 1) a0) := by
  intro a0 k
  unfold scan_str.f
  repeat' first
      | (with_reducible exact scan_unquoted.mono _ _)
      | (with_reducible exact LeO.refl _)
      | (with_reducible exact LeO.none _)
      | (with_reducible refine LeO.ite ?_ ?_)
      | (with_reducible refine LeO.bind ?_ (fun _ => ?_))
      | exact scan_unquoted.mono _ _
      | exact LeO.none _
      | refine LeO.ite ?_ ?_
      | refine LeO.bind ?_ (fun _ => ?_)
set_option maxHeartbeats 8000000 in
set_option maxRecDepth 100000 in
theorem scan_str.calls (k : Nat) (a0 : ByteArray) (r1 : Int) (r2 : Int) (r3 : Int) (w : World) (h : scan_str.f k a0 = some (r1, r2, r3)) :
    Calls Tryd.prog 62 #[.string a0] w fun e w' => e = .returned (.agg #[.int .i64 r1, .int .i64 r2, .int .i64 r3]) ∧ Below w.heap.size w w' := by
  have hu77 := Tryd.underlying77
  have HB := Aside0.mk (Below.refl w.heap.size w)
  have H : ((scan_unquoted.f k a0).bind fun bt156 => (if bt156.2.2 = true then (some (3, bt156.2.1, 0)) else (some (0, 0, 42)))) = some (r1, r2, r3) := h
  clear h
  replace H := Option.bind_eq_some_iff.mp H
  obtain ⟨⟨t156, t157, t158⟩, A20, H⟩ := H
  replace H : (if t158 = true then (some (3, t157, 0)) else (some (0, 0, 42))) = some (r1, r2, r3) := H
  have A2 := Aside0.mk A20
  clear A20
  by_cases c3 : t158 = true
  · subst c3
    have H1 : (some (3, t157, 0)) = some (r1, r2, r3) := by rw [if_pos rfl] at H; exact H
    clear H
    have H := H1
    clear H1
    simp only [Option.some.injEq, Prod.mk.injEq] at H
    obtain ⟨rfl, rfl, rfl⟩ := H
    go_enter Tryd.func62, Tryd.ntmps62
    go_wp2_with (first | ((with_reducible refine gate_dst (N := 2) rfl ?_); refine box_event ?hg (N := 2) ?hd (cs := #[.int .i64 0, .int .i64 0, .int .i64 0]) (t := 77) ?hr ?_; (case hd => rfl); (case hg => rfl); (case hr => first | (go_simp; done) | (go_simp; rfl)); intro gb155 hg w4 hbox hb; have n0_ := Aside0.mk (below_step (by repeat (first | (with_reducible first | exact HB.out | apply below_alloc | apply pw_below_drewN | apply below_drew1) | exact HB.out)) hb); have n1_ := Aside0.mk (hbox); have n2_ := Aside0.mk ((by rw [hg]; exact (below_size (by repeat (first | (with_reducible first | exact HB.out | apply below_alloc | apply pw_below_drewN | apply below_drew1) | exact HB.out))) : w.heap.size ≤ gb155)); have n3_ := Aside0.mk ((by rw [hg]; exact (below_size (by repeat (first | (with_reducible first | exact HB.out | apply below_alloc | apply pw_below_drewN | apply below_drew1) | exact HB.out))) : w.heap.size ≤ gb155)); clear HB; have HB := n0_; have BK155 := n1_; have GW155 := n2_; have GE155 := n3_; clear n0_ n1_ n2_ n3_; clear hb hbox hg) | ((with_reducible refine gate_callee (f := 41) rfl ?_); refine goesL_ (some 8) rfl rfl Tryd.func41 (by kernel_rfl) rfl #[.string a0] rfl (by (try simp only [List.map_toArray, List.map_cons, List.map_nil]); first | done | rfl | (simp only [List.length_drop, List.length_take]; rfl)) ?_; (with_reducible refine (scan_unquoted.calls k a0 t156 t157 true _ A2.out).mono ?_); rintro e w5 ⟨rfl, hb⟩; refine ⟨_, rfl, ?_⟩; have n0_ := Aside0.mk (blk_below (g := gb155) (o := .cells #[.int .i64 0, .int .i64 0, .int .i64 0] 77 (0, 0)) (by (with_reducible repeat (first | refine blk_drewN ?_ _ | refine blk_drew ?_ | refine blk_alloc ?_ _)); exact BK155.out) hb); have n1_ := Aside0.mk (below_step (by repeat (first | (with_reducible first | exact HB.out | apply below_alloc | apply pw_below_drewN | apply below_drew1 | refine below_set ?_ GE155.out) | exact HB.out)) hb); clear BK155; clear HB; have BK155 := n0_; have HB := n1_; clear n0_ n1_; (try clear hb); (try clear hb2); (try clear hk); (try clear hi); have hcz6_0 : w5.cell? ⟨gb155, 0, none⟩ = some (.int .i64 0) := (blk_cell BK155.out 0).trans rfl; have hcz6_1 : w5.cell? ⟨gb155, 1, none⟩ = some (.int .i64 0) := (blk_cell BK155.out 1).trans rfl; have hcz6_2 : w5.cell? ⟨gb155, 2, none⟩ = some (.int .i64 0) := (blk_cell BK155.out 2).trans rfl; have hfz6_0 := blk_frozen BK155.out 0; have hfz6_1 := blk_frozen BK155.out 1; have hfz6_2 := blk_frozen BK155.out 2))
    refine bodyPost_ret (results_cell_row rfl _ _ gb155 77 #[.int .i64 3, .int .i64 t157, .int .i64 0] (0, 0) _ rfl (by (with_reducible repeat (first | refine blk_drewN ?_ _ | refine blk_drew ?_ | refine blk_alloc ?_ _)); refine blk_put (cs := #[.int .i64 3, .int .i64 t157, .int .i64 0]) ?_ 2 _ rfl; (with_reducible repeat (first | refine blk_drewN ?_ _ | refine blk_drew ?_ | refine blk_alloc ?_ _)); refine blk_put (cs := #[.int .i64 3, .int .i64 0, .int .i64 0]) ?_ 1 _ rfl; (with_reducible repeat (first | refine blk_drewN ?_ _ | refine blk_drew ?_ | refine blk_alloc ?_ _)); refine blk_put (cs := #[.int .i64 0, .int .i64 0, .int .i64 0]) ?_ 0 _ rfl; (with_reducible repeat (first | refine blk_drewN ?_ _ | refine blk_drew ?_ | refine blk_alloc ?_ _)); exact BK155.out) Tryd.underlying77 rfl (by kernel_rfl)) rfl ?_
    exact ⟨by first | rfl | (simp [errW_none, errW_some] <;> rfl) | (simp [*, errW_none, errW_some] <;> rfl), by repeat (first | (with_reducible first | exact HB.out | apply below_alloc | apply pw_below_drewN | apply below_drew1 | refine below_set ?_ GE155.out) | exact HB.out)⟩
  · replace c3 := Bool.eq_false_iff.mpr c3
    subst c3
    have H1 : (some (0, 0, 42)) = some (r1, r2, r3) := by rw [if_neg (show ¬ (false = true) by decide)] at H; exact H
    clear H
    have H := H1
    clear H1
    simp only [Option.some.injEq, Prod.mk.injEq] at H
    obtain ⟨rfl, rfl, rfl⟩ := H
    go_enter Tryd.func62, Tryd.ntmps62
    go_wp2_with (first | ((with_reducible refine gate_dst (N := 2) rfl ?_); refine box_event ?hg (N := 2) ?hd (cs := #[.int .i64 0, .int .i64 0, .int .i64 0]) (t := 77) ?hr ?_; (case hd => rfl); (case hg => rfl); (case hr => first | (go_simp; done) | (go_simp; rfl)); intro gb155 hg w7 hbox hb; have n0_ := Aside0.mk (below_step (by repeat (first | (with_reducible first | exact HB.out | apply below_alloc | apply pw_below_drewN | apply below_drew1) | exact HB.out)) hb); have n1_ := Aside0.mk (hbox); have n2_ := Aside0.mk ((by rw [hg]; exact (below_size (by repeat (first | (with_reducible first | exact HB.out | apply below_alloc | apply pw_below_drewN | apply below_drew1) | exact HB.out))) : w.heap.size ≤ gb155)); have n3_ := Aside0.mk ((by rw [hg]; exact (below_size (by repeat (first | (with_reducible first | exact HB.out | apply below_alloc | apply pw_below_drewN | apply below_drew1) | exact HB.out))) : w.heap.size ≤ gb155)); clear HB; have HB := n0_; have BK155 := n1_; have GW155 := n2_; have GE155 := n3_; clear n0_ n1_ n2_ n3_; clear hb hbox hg) | ((with_reducible refine gate_callee (f := 41) rfl ?_); refine goesL_ (some 8) rfl rfl Tryd.func41 (by kernel_rfl) rfl #[.string a0] rfl (by (try simp only [List.map_toArray, List.map_cons, List.map_nil]); first | done | rfl | (simp only [List.length_drop, List.length_take]; rfl)) ?_; (with_reducible refine (scan_unquoted.calls k a0 t156 t157 false _ A2.out).mono ?_); rintro e w8 ⟨rfl, hb⟩; refine ⟨_, rfl, ?_⟩; have n0_ := Aside0.mk (blk_below (g := gb155) (o := .cells #[.int .i64 0, .int .i64 0, .int .i64 0] 77 (0, 0)) (by (with_reducible repeat (first | refine blk_drewN ?_ _ | refine blk_drew ?_ | refine blk_alloc ?_ _)); exact BK155.out) hb); have n1_ := Aside0.mk (below_step (by repeat (first | (with_reducible first | exact HB.out | apply below_alloc | apply pw_below_drewN | apply below_drew1 | refine below_set ?_ GE155.out) | exact HB.out)) hb); clear BK155; clear HB; have BK155 := n0_; have HB := n1_; clear n0_ n1_; (try clear hb); (try clear hb2); (try clear hk); (try clear hi); have hcz9_0 : w8.cell? ⟨gb155, 0, none⟩ = some (.int .i64 0) := (blk_cell BK155.out 0).trans rfl; have hcz9_1 : w8.cell? ⟨gb155, 1, none⟩ = some (.int .i64 0) := (blk_cell BK155.out 1).trans rfl; have hcz9_2 : w8.cell? ⟨gb155, 2, none⟩ = some (.int .i64 0) := (blk_cell BK155.out 2).trans rfl; have hfz9_0 := blk_frozen BK155.out 0; have hfz9_1 := blk_frozen BK155.out 1; have hfz9_2 := blk_frozen BK155.out 2))
    refine bodyPost_ret (results_cell_row rfl _ _ gb155 77 #[.int .i64 0, .int .i64 0, .int .i64 42] (0, 0) _ rfl (by (with_reducible repeat (first | refine blk_drewN ?_ _ | refine blk_drew ?_ | refine blk_alloc ?_ _)); refine blk_put (cs := #[.int .i64 0, .int .i64 0, .int .i64 0]) ?_ 2 _ rfl; (with_reducible repeat (first | refine blk_drewN ?_ _ | refine blk_drew ?_ | refine blk_alloc ?_ _)); refine blk_put (cs := #[.int .i64 0, .int .i64 0, .int .i64 0]) ?_ 1 _ rfl; (with_reducible repeat (first | refine blk_drewN ?_ _ | refine blk_drew ?_ | refine blk_alloc ?_ _)); refine blk_put (cs := #[.int .i64 0, .int .i64 0, .int .i64 0]) ?_ 0 _ rfl; (with_reducible repeat (first | refine blk_drewN ?_ _ | refine blk_drew ?_ | refine blk_alloc ?_ _)); exact BK155.out) Tryd.underlying77 rfl (by kernel_rfl)) rfl ?_
    exact ⟨by first | rfl | (simp [errW_none, errW_some] <;> rfl) | (simp [*, errW_none, errW_some] <;> rfl), by repeat (first | (with_reducible first | exact HB.out | apply below_alloc | apply pw_below_drewN | apply below_drew1 | refine below_set ?_ GE155.out) | exact HB.out)⟩

/-! ### stringslite_HasPrefix: function 91 -/
def stringslite_HasPrefix.f (a0 : ByteArray) (a1 : ByteArray) : Option (Bool) := if (a0.size : Int) ≥ (a1.size : Int) then (if 0 ≤ (a1.size : Int) then (if (a1.size : Int) ≤ (a0.size : Int) then (some ((a0.extract 0 ((a1.size : Int) : Int).toNat).toList == a1.toList)) else (none)) else (none)) else (some false)
set_option maxHeartbeats 8000000 in
set_option maxRecDepth 100000 in
theorem stringslite_HasPrefix.calls (a0 : ByteArray) (a1 : ByteArray) (r : Bool) (w : World) (h : stringslite_HasPrefix.f a0 a1 = some r) :
    Calls Tryd.prog 91 #[.string a0, .string a1] w fun e w' => e = .returned (.bool r) ∧ Drawn0 w w' := by
  have H : (if (a0.size : Int) ≥ (a1.size : Int) then (if 0 ≤ (a1.size : Int) then (if (a1.size : Int) ≤ (a0.size : Int) then (some ((a0.extract 0 ((a1.size : Int) : Int).toNat).toList == a1.toList)) else (none)) else (none)) else (some false)) = some r := h
  clear h
  by_cases c3 : (a0.size : Int) ≥ (a1.size : Int)
  · rw [if_pos c3] at H
    have c3b0 : decide ((a1.size : Int) ≤ (a0.size : Int)) = true := decide_eq_true c3
    have c3b1 : decide (a1.size ≤ a0.size) = true := decide_eq_true (Int.ofNat_le.mp c3)
    clear c3
    by_cases c4 : 0 ≤ (a1.size : Int)
    · rw [if_pos c4] at H
      have c4b0 := eq_true c4
      have c4b1 : decide (0 ≤ (a1.size : Int)) = true := decide_eq_true c4
      clear c4
      by_cases c5 : (a1.size : Int) ≤ (a0.size : Int)
      · rw [if_pos c5] at H
        have c5b0 := eq_true c5
        have c5b1 : decide ((a1.size : Int) ≤ (a0.size : Int)) = true := decide_eq_true c5
        clear c5
        obtain rfl := Option.some.inj H
        go_enter Tryd.func91, Tryd.ntmps91
        go_wp2
        go_ret
        exact ⟨by first | rfl | (simp; done) | (simp [*]; done), by repeat (first | exact Drawn0.refl _ | apply Drawn0.step)⟩
      · rw [if_neg c5] at H
        exact absurd H (by simp)
    · rw [if_neg c4] at H
      exact absurd H (by simp)
  · rw [if_neg c3] at H
    have c3b0 : decide ((a1.size : Int) ≤ (a0.size : Int)) = false := decide_eq_false c3
    have c3b1 : decide (a1.size ≤ a0.size) = false := decide_eq_false (fun h => c3 (Int.ofNat_le.mpr h))
    clear c3
    obtain rfl := Option.some.inj H
    go_enter Tryd.func91, Tryd.ntmps91
    go_wp2
    go_ret
    exact ⟨by first | rfl | (simp; done) | (simp [*]; done), by repeat (first | exact Drawn0.refl _ | apply Drawn0.step)⟩

/-! ### strings_HasPrefix: function 81 -/
def strings_HasPrefix.f (a0 : ByteArray) (a1 : ByteArray) : Option (Bool) := (stringslite_HasPrefix.f a0 a1).bind fun t159 => (some t159)
set_option maxHeartbeats 8000000 in
set_option maxRecDepth 100000 in
theorem strings_HasPrefix.calls (a0 : ByteArray) (a1 : ByteArray) (r : Bool) (w : World) (h : strings_HasPrefix.f a0 a1 = some r) :
    Calls Tryd.prog 81 #[.string a0, .string a1] w fun e w' => e = .returned (.bool r) ∧ Drawn0 w w' := by
  have H : ((stringslite_HasPrefix.f a0 a1).bind fun t159 => (some t159)) = some r := h
  clear h
  replace H := Option.bind_eq_some_iff.mp H
  obtain ⟨t159, A30, H⟩ := H
  replace H : (some t159) = some r := H
  have A3 := Aside0.mk A30
  clear A30
  obtain rfl := Option.some.inj H
  go_enter Tryd.func81, Tryd.ntmps81
  go_wp2_with (first | ((with_reducible refine gate_callee (f := 91) rfl ?_); refine goesL_ (some 7) rfl rfl Tryd.func91 (by kernel_rfl) rfl #[.string a0, .string a1] rfl (by (try simp only [List.map_toArray, List.map_cons, List.map_nil]); first | done | rfl | (simp only [List.length_drop, List.length_take]; rfl)) ?_; (with_reducible refine (stringslite_HasPrefix.calls a0 a1 t159 _ A3.out).mono ?_); rintro e w' ⟨rfl, ⟨nd, rfl⟩⟩; refine ⟨_, rfl, ?_⟩))
  go_ret
  exact ⟨by first | rfl | (simp; done) | (simp [*]; done), by repeat (first | exact Drawn0.refl _ | apply Drawn0.step)⟩

/-! ### strings_Index: function 82 -/
def strings_Index.f (a0 : ByteArray) (a1 : ByteArray) : Option (Int) := if a0.size < 4294967281 then some (Lib.index a0.data.toList a1.data.toList) else none
theorem strings_Index.calls (a0 : ByteArray) (a1 : ByteArray) (r : Int) (w : World) (h : strings_Index.f a0 a1 = some r) (hL : LaidW w) :
    Calls Tryd.prog 82 #[.string a0, .string a1] w fun e w' => e = .returned (.int .i64 r) ∧ Drawn0 w w' := by
  obtain ⟨_, ⟨m, hm⟩⟩ := hL
  unfold strings_Index.f at h
  by_cases c : a0.size < 4294967281
  · rw [if_pos c] at h
    obtain rfl := Option.some.inj h
    exact (Tryd.strings_Index a0 a1 m w c hm).mono fun e w' ⟨h1, h2⟩ => ⟨h1, h2 ▸ Drawn0.refl _⟩
  · rw [if_neg c] at h
    cases h

/-! ### scan_comment: function 64 -/
def scan_comment.f (a0 : ByteArray) : Option (Int × Int × Int) := (strings_HasPrefix.f a0 (⟨#[47, 47]⟩ : ByteArray)).bind fun t161 => (if t161 = true then ((strings_IndexByte.f a0 10).bind fun t162 => (if t162 ≥ 0 then (some (0, t162, 0)) else (some (0, (a0.size : Int), 0)))) else ((strings_HasPrefix.f a0 (⟨#[47, 42]⟩ : ByteArray)).bind fun t163 => (if t163 = true then (if 2 ≤ (a0.size : Int) then ((strings_Index.f (a0.extract 2 a0.size) (⟨#[42, 47]⟩ : ByteArray)).bind fun t164 => (if t164 ≥ 0 then (some (0, wrap64 (t164 + 4), 0)) else (some (0, 0, 43)))) else (none)) else (some (0, 0, 40)))))
set_option maxHeartbeats 8000000 in
set_option maxRecDepth 100000 in
theorem scan_comment.calls (a0 : ByteArray) (r1 : Int) (r2 : Int) (r3 : Int) (w : World) (h : scan_comment.f a0 = some (r1, r2, r3)) (hL : LaidW w) :
    Calls Tryd.prog 64 #[.string a0] w fun e w' => e = .returned (.agg #[.int .i64 r1, .int .i64 r2, .int .i64 r3]) ∧ Below w.heap.size w w' := by
  have HL := Aside0.mk hL
  clear hL
  have hu77 := Tryd.underlying77
  have HB := Aside0.mk (Below.refl w.heap.size w)
  have H : ((strings_HasPrefix.f a0 (⟨#[47, 47]⟩ : ByteArray)).bind fun t161 => (if t161 = true then ((strings_IndexByte.f a0 10).bind fun t162 => (if t162 ≥ 0 then (some (0, t162, 0)) else (some (0, (a0.size : Int), 0)))) else ((strings_HasPrefix.f a0 (⟨#[47, 42]⟩ : ByteArray)).bind fun t163 => (if t163 = true then (if 2 ≤ (a0.size : Int) then ((strings_Index.f (a0.extract 2 a0.size) (⟨#[42, 47]⟩ : ByteArray)).bind fun t164 => (if t164 ≥ 0 then (some (0, wrap64 (t164 + 4), 0)) else (some (0, 0, 43)))) else (none)) else (some (0, 0, 40)))))) = some (r1, r2, r3) := h
  clear h
  replace H := Option.bind_eq_some_iff.mp H
  obtain ⟨t161, A20, H⟩ := H
  replace H : (if t161 = true then ((strings_IndexByte.f a0 10).bind fun t162 => (if t162 ≥ 0 then (some (0, t162, 0)) else (some (0, (a0.size : Int), 0)))) else ((strings_HasPrefix.f a0 (⟨#[47, 42]⟩ : ByteArray)).bind fun t163 => (if t163 = true then (if 2 ≤ (a0.size : Int) then ((strings_Index.f (a0.extract 2 a0.size) (⟨#[42, 47]⟩ : ByteArray)).bind fun t164 => (if t164 ≥ 0 then (some (0, wrap64 (t164 + 4), 0)) else (some (0, 0, 43)))) else (none)) else (some (0, 0, 40))))) = some (r1, r2, r3) := H
  have A2 := Aside0.mk A20
  clear A20
  by_cases c3 : t161 = true
  · subst c3
    have H1 : ((strings_IndexByte.f a0 10).bind fun t162 => (if t162 ≥ 0 then (some (0, t162, 0)) else (some (0, (a0.size : Int), 0)))) = some (r1, r2, r3) := by rw [if_pos rfl] at H; exact H
    clear H
    have H := H1
    clear H1
    replace H := Option.bind_eq_some_iff.mp H
    obtain ⟨t162, A40, H⟩ := H
    replace H : (if t162 ≥ 0 then (some (0, t162, 0)) else (some (0, (a0.size : Int), 0))) = some (r1, r2, r3) := H
    have A4 := Aside0.mk A40
    clear A40
    by_cases c5 : t162 ≥ 0
    · rw [if_pos c5] at H
      have c5b0 : decide (0 ≤ t162) = true := decide_eq_true c5
      clear c5
      simp only [Option.some.injEq, Prod.mk.injEq] at H
      obtain ⟨rfl, rfl, rfl⟩ := H
      go_enter Tryd.func64, Tryd.ntmps64
      go_wp2_with (first | ((with_reducible refine gate_dst (N := 2) rfl ?_); refine box_event ?hg (N := 2) ?hd (cs := #[.int .i64 0, .int .i64 0, .int .i64 0]) (t := 77) ?hr ?_; (case hd => rfl); (case hg => rfl); (case hr => first | (go_simp; done) | (go_simp; rfl)); intro gb160 hg w6 hbox hb; have n0_ := Aside0.mk (below_step (by repeat (first | (with_reducible first | exact HB.out | apply below_alloc | apply pw_below_drewN | apply below_drew1) | exact HB.out)) hb); have n1_ := Aside0.mk (hbox); have n2_ := Aside0.mk ((by rw [hg]; exact (below_size (by repeat (first | (with_reducible first | exact HB.out | apply below_alloc | apply pw_below_drewN | apply below_drew1) | exact HB.out))) : w.heap.size ≤ gb160)); have n3_ := Aside0.mk ((by rw [hg]; exact (below_size (by repeat (first | (with_reducible first | exact HB.out | apply below_alloc | apply pw_below_drewN | apply below_drew1) | exact HB.out))) : w.heap.size ≤ gb160)); clear HB; have HB := n0_; have BK160 := n1_; have GW160 := n2_; have GE160 := n3_; clear n0_ n1_ n2_ n3_; clear hb hbox hg) | ((with_reducible refine gate_callee (f := 81) rfl ?_); refine goesL_ (some 7) rfl rfl Tryd.func81 (by kernel_rfl) rfl #[.string a0, .string (⟨#[47, 47]⟩ : ByteArray)] rfl (by (try simp only [List.map_toArray, List.map_cons, List.map_nil]); first | done | rfl | (simp only [List.length_drop, List.length_take]; rfl)) ?_; (with_reducible refine (strings_HasPrefix.calls a0 (⟨#[47, 47]⟩ : ByteArray) true _ A2.out).mono ?_); rintro e w' ⟨rfl, ⟨nd, rfl⟩⟩; refine ⟨_, rfl, ?_⟩; (try (rw [drewN_self w6]; generalize hq_ : World.drewN w6 _ = w6; have n0_ : Aside0 (w6.heap[gb160]? = some (.cells #[.int .i64 0, .int .i64 0, .int .i64 0] 77 (0, 0))) := ⟨by rw [← hq_]; exact (by (with_reducible repeat (first | refine blk_drewN ?_ _ | refine blk_drew ?_ | refine blk_alloc ?_ _)); exact BK160.out)⟩; have n1_ : Aside0 (Below w.heap.size w w6) := ⟨by rw [← hq_]; exact (by repeat (first | (with_reducible first | exact HB.out | apply below_alloc | apply pw_below_drewN | apply below_drew1 | refine below_set ?_ GE160.out) | exact HB.out))⟩; clear BK160 HB hq_; have BK160 := n0_; have HB := n1_; clear n0_ n1_))) | ((with_reducible refine gate_callee (f := 65) rfl ?_); refine goesL_ (some 9) rfl rfl Tryd.func65 (by kernel_rfl) rfl #[.string a0, .int .u8 10] rfl (by (try simp only [List.map_toArray, List.map_cons, List.map_nil]); first | done | rfl | (simp only [List.length_drop, List.length_take]; rfl)) ?_; (with_reducible refine (strings_IndexByte.calls a0 10 t162 _ A4.out).mono ?_); rintro e w' ⟨rfl, ⟨nd, rfl⟩⟩; refine ⟨_, rfl, ?_⟩; (try (rw [drewN_self w6]; generalize hq_ : World.drewN w6 _ = w6; have n0_ : Aside0 (w6.heap[gb160]? = some (.cells #[.int .i64 0, .int .i64 0, .int .i64 0] 77 (0, 0))) := ⟨by rw [← hq_]; exact (by (with_reducible repeat (first | refine blk_drewN ?_ _ | refine blk_drew ?_ | refine blk_alloc ?_ _)); exact BK160.out)⟩; have n1_ : Aside0 (Below w.heap.size w w6) := ⟨by rw [← hq_]; exact (by repeat (first | (with_reducible first | exact HB.out | apply below_alloc | apply pw_below_drewN | apply below_drew1 | refine below_set ?_ GE160.out) | exact HB.out))⟩; clear BK160 HB hq_; have BK160 := n0_; have HB := n1_; clear n0_ n1_)); have hcz7_0 : w6.cell? ⟨gb160, 0, none⟩ = some (.int .i64 0) := (blk_cell BK160.out 0).trans rfl; have hcz7_1 : w6.cell? ⟨gb160, 1, none⟩ = some (.int .i64 0) := (blk_cell BK160.out 1).trans rfl; have hcz7_2 : w6.cell? ⟨gb160, 2, none⟩ = some (.int .i64 0) := (blk_cell BK160.out 2).trans rfl; have hfz7_0 := blk_frozen BK160.out 0; have hfz7_1 := blk_frozen BK160.out 1; have hfz7_2 := blk_frozen BK160.out 2))
      refine bodyPost_ret (results_cell_row rfl _ _ gb160 77 #[.int .i64 0, .int .i64 t162, .int .i64 0] (0, 0) _ rfl (by (with_reducible repeat (first | refine blk_drewN ?_ _ | refine blk_drew ?_ | refine blk_alloc ?_ _)); refine blk_put (cs := #[.int .i64 0, .int .i64 t162, .int .i64 0]) ?_ 2 _ rfl; (with_reducible repeat (first | refine blk_drewN ?_ _ | refine blk_drew ?_ | refine blk_alloc ?_ _)); refine blk_put (cs := #[.int .i64 0, .int .i64 0, .int .i64 0]) ?_ 1 _ rfl; (with_reducible repeat (first | refine blk_drewN ?_ _ | refine blk_drew ?_ | refine blk_alloc ?_ _)); refine blk_put (cs := #[.int .i64 0, .int .i64 0, .int .i64 0]) ?_ 0 _ rfl; (with_reducible repeat (first | refine blk_drewN ?_ _ | refine blk_drew ?_ | refine blk_alloc ?_ _)); exact BK160.out) Tryd.underlying77 rfl (by kernel_rfl)) rfl ?_
      exact ⟨by first | rfl | (simp [errW_none, errW_some] <;> rfl) | (simp [*, errW_none, errW_some] <;> rfl), by repeat (first | (with_reducible first | exact HB.out | apply below_alloc | apply pw_below_drewN | apply below_drew1 | refine below_set ?_ GE160.out) | exact HB.out)⟩
    · rw [if_neg c5] at H
      have c5b0 : decide (0 ≤ t162) = false := decide_eq_false c5
      clear c5
      simp only [Option.some.injEq, Prod.mk.injEq] at H
      obtain ⟨rfl, rfl, rfl⟩ := H
      go_enter Tryd.func64, Tryd.ntmps64
      go_wp2_with (first | ((with_reducible refine gate_dst (N := 2) rfl ?_); refine box_event ?hg (N := 2) ?hd (cs := #[.int .i64 0, .int .i64 0, .int .i64 0]) (t := 77) ?hr ?_; (case hd => rfl); (case hg => rfl); (case hr => first | (go_simp; done) | (go_simp; rfl)); intro gb160 hg w8 hbox hb; have n0_ := Aside0.mk (below_step (by repeat (first | (with_reducible first | exact HB.out | apply below_alloc | apply pw_below_drewN | apply below_drew1) | exact HB.out)) hb); have n1_ := Aside0.mk (hbox); have n2_ := Aside0.mk ((by rw [hg]; exact (below_size (by repeat (first | (with_reducible first | exact HB.out | apply below_alloc | apply pw_below_drewN | apply below_drew1) | exact HB.out))) : w.heap.size ≤ gb160)); have n3_ := Aside0.mk ((by rw [hg]; exact (below_size (by repeat (first | (with_reducible first | exact HB.out | apply below_alloc | apply pw_below_drewN | apply below_drew1) | exact HB.out))) : w.heap.size ≤ gb160)); clear HB; have HB := n0_; have BK160 := n1_; have GW160 := n2_; have GE160 := n3_; clear n0_ n1_ n2_ n3_; clear hb hbox hg) | ((with_reducible refine gate_callee (f := 81) rfl ?_); refine goesL_ (some 7) rfl rfl Tryd.func81 (by kernel_rfl) rfl #[.string a0, .string (⟨#[47, 47]⟩ : ByteArray)] rfl (by (try simp only [List.map_toArray, List.map_cons, List.map_nil]); first | done | rfl | (simp only [List.length_drop, List.length_take]; rfl)) ?_; (with_reducible refine (strings_HasPrefix.calls a0 (⟨#[47, 47]⟩ : ByteArray) true _ A2.out).mono ?_); rintro e w' ⟨rfl, ⟨nd, rfl⟩⟩; refine ⟨_, rfl, ?_⟩; (try (rw [drewN_self w8]; generalize hq_ : World.drewN w8 _ = w8; have n0_ : Aside0 (w8.heap[gb160]? = some (.cells #[.int .i64 0, .int .i64 0, .int .i64 0] 77 (0, 0))) := ⟨by rw [← hq_]; exact (by (with_reducible repeat (first | refine blk_drewN ?_ _ | refine blk_drew ?_ | refine blk_alloc ?_ _)); exact BK160.out)⟩; have n1_ : Aside0 (Below w.heap.size w w8) := ⟨by rw [← hq_]; exact (by repeat (first | (with_reducible first | exact HB.out | apply below_alloc | apply pw_below_drewN | apply below_drew1 | refine below_set ?_ GE160.out) | exact HB.out))⟩; clear BK160 HB hq_; have BK160 := n0_; have HB := n1_; clear n0_ n1_))) | ((with_reducible refine gate_callee (f := 65) rfl ?_); refine goesL_ (some 9) rfl rfl Tryd.func65 (by kernel_rfl) rfl #[.string a0, .int .u8 10] rfl (by (try simp only [List.map_toArray, List.map_cons, List.map_nil]); first | done | rfl | (simp only [List.length_drop, List.length_take]; rfl)) ?_; (with_reducible refine (strings_IndexByte.calls a0 10 t162 _ A4.out).mono ?_); rintro e w' ⟨rfl, ⟨nd, rfl⟩⟩; refine ⟨_, rfl, ?_⟩; (try (rw [drewN_self w8]; generalize hq_ : World.drewN w8 _ = w8; have n0_ : Aside0 (w8.heap[gb160]? = some (.cells #[.int .i64 0, .int .i64 0, .int .i64 0] 77 (0, 0))) := ⟨by rw [← hq_]; exact (by (with_reducible repeat (first | refine blk_drewN ?_ _ | refine blk_drew ?_ | refine blk_alloc ?_ _)); exact BK160.out)⟩; have n1_ : Aside0 (Below w.heap.size w w8) := ⟨by rw [← hq_]; exact (by repeat (first | (with_reducible first | exact HB.out | apply below_alloc | apply pw_below_drewN | apply below_drew1 | refine below_set ?_ GE160.out) | exact HB.out))⟩; clear BK160 HB hq_; have BK160 := n0_; have HB := n1_; clear n0_ n1_)); have hcz9_0 : w8.cell? ⟨gb160, 0, none⟩ = some (.int .i64 0) := (blk_cell BK160.out 0).trans rfl; have hcz9_1 : w8.cell? ⟨gb160, 1, none⟩ = some (.int .i64 0) := (blk_cell BK160.out 1).trans rfl; have hcz9_2 : w8.cell? ⟨gb160, 2, none⟩ = some (.int .i64 0) := (blk_cell BK160.out 2).trans rfl; have hfz9_0 := blk_frozen BK160.out 0; have hfz9_1 := blk_frozen BK160.out 1; have hfz9_2 := blk_frozen BK160.out 2))
      refine bodyPost_ret (results_cell_row rfl _ _ gb160 77 #[.int .i64 0, .int .i64 (a0.size : Int), .int .i64 0] (0, 0) _ rfl (by (with_reducible repeat (first | refine blk_drewN ?_ _ | refine blk_drew ?_ | refine blk_alloc ?_ _)); refine blk_put (cs := #[.int .i64 0, .int .i64 (a0.size : Int), .int .i64 0]) ?_ 2 _ rfl; (with_reducible repeat (first | refine blk_drewN ?_ _ | refine blk_drew ?_ | refine blk_alloc ?_ _)); refine blk_put (cs := #[.int .i64 0, .int .i64 0, .int .i64 0]) ?_ 1 _ rfl; (with_reducible repeat (first | refine blk_drewN ?_ _ | refine blk_drew ?_ | refine blk_alloc ?_ _)); refine blk_put (cs := #[.int .i64 0, .int .i64 0, .int .i64 0]) ?_ 0 _ rfl; (with_reducible repeat (first | refine blk_drewN ?_ _ | refine blk_drew ?_ | refine blk_alloc ?_ _)); exact BK160.out) Tryd.underlying77 rfl (by kernel_rfl)) rfl ?_
      exact ⟨by first | rfl | (simp [errW_none, errW_some] <;> rfl) | (simp [*, errW_none, errW_some] <;> rfl), by repeat (first | (with_reducible first | exact HB.out | apply below_alloc | apply pw_below_drewN | apply below_drew1 | refine below_set ?_ GE160.out) | exact HB.out)⟩
  · replace c3 := Bool.eq_false_iff.mpr c3
    subst c3
    have H1 : ((strings_HasPrefix.f a0 (⟨#[47, 42]⟩ : ByteArray)).bind fun t163 => (if t163 = true then (if 2 ≤ (a0.size : Int) then ((strings_Index.f (a0.extract 2 a0.size) (⟨#[42, 47]⟩ : ByteArray)).bind fun t164 => (if t164 ≥ 0 then (some (0, wrap64 (t164 + 4), 0)) else (some (0, 0, 43)))) else (none)) else (some (0, 0, 40)))) = some (r1, r2, r3) := by rw [if_neg (show ¬ (false = true) by decide)] at H; exact H
    clear H
    have H := H1
    clear H1
    replace H := Option.bind_eq_some_iff.mp H
    obtain ⟨t163, A100, H⟩ := H
    replace H : (if t163 = true then (if 2 ≤ (a0.size : Int) then ((strings_Index.f (a0.extract 2 a0.size) (⟨#[42, 47]⟩ : ByteArray)).bind fun t164 => (if t164 ≥ 0 then (some (0, wrap64 (t164 + 4), 0)) else (some (0, 0, 43)))) else (none)) else (some (0, 0, 40))) = some (r1, r2, r3) := H
    have A10 := Aside0.mk A100
    clear A100
    by_cases c11 : t163 = true
    · subst c11
      have H1 : (if 2 ≤ (a0.size : Int) then ((strings_Index.f (a0.extract 2 a0.size) (⟨#[42, 47]⟩ : ByteArray)).bind fun t164 => (if t164 ≥ 0 then (some (0, wrap64 (t164 + 4), 0)) else (some (0, 0, 43)))) else (none)) = some (r1, r2, r3) := by rw [if_pos rfl] at H; exact H
      clear H
      have H := H1
      clear H1
      by_cases c12 : 2 ≤ (a0.size : Int)
      · rw [if_pos c12] at H
        have c12b0 := eq_true c12
        have c12b1 : decide (2 ≤ (a0.size : Int)) = true := decide_eq_true c12
        clear c12
        replace H := Option.bind_eq_some_iff.mp H
        obtain ⟨t164, A130, H⟩ := H
        replace H : (if t164 ≥ 0 then (some (0, wrap64 (t164 + 4), 0)) else (some (0, 0, 43))) = some (r1, r2, r3) := H
        have A13 := Aside0.mk A130
        clear A130
        by_cases c14 : t164 ≥ 0
        · rw [if_pos c14] at H
          have c14b0 : decide (0 ≤ t164) = true := decide_eq_true c14
          clear c14
          simp only [Option.some.injEq, Prod.mk.injEq] at H
          obtain ⟨rfl, rfl, rfl⟩ := H
          go_enter Tryd.func64, Tryd.ntmps64
          go_wp2_with (first | ((with_reducible refine gate_dst (N := 2) rfl ?_); refine box_event ?hg (N := 2) ?hd (cs := #[.int .i64 0, .int .i64 0, .int .i64 0]) (t := 77) ?hr ?_; (case hd => rfl); (case hg => rfl); (case hr => first | (go_simp; done) | (go_simp; rfl)); intro gb160 hg w15 hbox hb; have n0_ := Aside0.mk (below_step (by repeat (first | (with_reducible first | exact HB.out | apply below_alloc | apply pw_below_drewN | apply below_drew1) | exact HB.out)) hb); have n1_ := Aside0.mk (hbox); have n2_ := Aside0.mk ((by rw [hg]; exact (below_size (by repeat (first | (with_reducible first | exact HB.out | apply below_alloc | apply pw_below_drewN | apply below_drew1) | exact HB.out))) : w.heap.size ≤ gb160)); have n3_ := Aside0.mk ((by rw [hg]; exact (below_size (by repeat (first | (with_reducible first | exact HB.out | apply below_alloc | apply pw_below_drewN | apply below_drew1) | exact HB.out))) : w.heap.size ≤ gb160)); clear HB; have HB := n0_; have BK160 := n1_; have GW160 := n2_; have GE160 := n3_; clear n0_ n1_ n2_ n3_; clear hb hbox hg) | ((with_reducible refine gate_callee (f := 81) rfl ?_); refine goesL_ (some 7) rfl rfl Tryd.func81 (by kernel_rfl) rfl #[.string a0, .string (⟨#[47, 47]⟩ : ByteArray)] rfl (by (try simp only [List.map_toArray, List.map_cons, List.map_nil]); first | done | rfl | (simp only [List.length_drop, List.length_take]; rfl)) ?_; (with_reducible refine (strings_HasPrefix.calls a0 (⟨#[47, 47]⟩ : ByteArray) false _ A2.out).mono ?_); rintro e w' ⟨rfl, ⟨nd, rfl⟩⟩; refine ⟨_, rfl, ?_⟩; (try (rw [drewN_self w15]; generalize hq_ : World.drewN w15 _ = w15; have n0_ : Aside0 (w15.heap[gb160]? = some (.cells #[.int .i64 0, .int .i64 0, .int .i64 0] 77 (0, 0))) := ⟨by rw [← hq_]; exact (by (with_reducible repeat (first | refine blk_drewN ?_ _ | refine blk_drew ?_ | refine blk_alloc ?_ _)); exact BK160.out)⟩; have n1_ : Aside0 (Below w.heap.size w w15) := ⟨by rw [← hq_]; exact (by repeat (first | (with_reducible first | exact HB.out | apply below_alloc | apply pw_below_drewN | apply below_drew1 | refine below_set ?_ GE160.out) | exact HB.out))⟩; clear BK160 HB hq_; have BK160 := n0_; have HB := n1_; clear n0_ n1_))) | ((with_reducible refine gate_callee (f := 81) rfl ?_); refine goesL_ (some 19) rfl rfl Tryd.func81 (by kernel_rfl) rfl #[.string a0, .string (⟨#[47, 42]⟩ : ByteArray)] rfl (by (try simp only [List.map_toArray, List.map_cons, List.map_nil]); first | done | rfl | (simp only [List.length_drop, List.length_take]; rfl)) ?_; (with_reducible refine (strings_HasPrefix.calls a0 (⟨#[47, 42]⟩ : ByteArray) true _ A10.out).mono ?_); rintro e w' ⟨rfl, ⟨nd, rfl⟩⟩; refine ⟨_, rfl, ?_⟩; (try (rw [drewN_self w15]; generalize hq_ : World.drewN w15 _ = w15; have n0_ : Aside0 (w15.heap[gb160]? = some (.cells #[.int .i64 0, .int .i64 0, .int .i64 0] 77 (0, 0))) := ⟨by rw [← hq_]; exact (by (with_reducible repeat (first | refine blk_drewN ?_ _ | refine blk_drew ?_ | refine blk_alloc ?_ _)); exact BK160.out)⟩; have n1_ : Aside0 (Below w.heap.size w w15) := ⟨by rw [← hq_]; exact (by repeat (first | (with_reducible first | exact HB.out | apply below_alloc | apply pw_below_drewN | apply below_drew1 | refine below_set ?_ GE160.out) | exact HB.out))⟩; clear BK160 HB hq_; have BK160 := n0_; have HB := n1_; clear n0_ n1_))) | ((with_reducible refine gate_callee (f := 82) rfl ?_); refine goesL_ (some 22) rfl rfl Tryd.func82 (by kernel_rfl) rfl #[.string (a0.extract 2 a0.size), .string (⟨#[42, 47]⟩ : ByteArray)] rfl (by (try simp only [List.map_toArray, List.map_cons, List.map_nil]); first | done | rfl | (simp only [List.length_drop, List.length_take]; rfl)) ?_; (with_reducible refine (strings_Index.calls (a0.extract 2 a0.size) (⟨#[42, 47]⟩ : ByteArray) t164 _ A13.out (LaidW.below HL.out (by repeat (first | (with_reducible first | exact HB.out | apply below_alloc | apply pw_below_drewN | apply below_drew1) | exact HB.out | exact Below.refl _ _)))).mono ?_); rintro e w' ⟨rfl, ⟨nd, rfl⟩⟩; refine ⟨_, rfl, ?_⟩; (try (rw [drewN_self w15]; generalize hq_ : World.drewN w15 _ = w15; have n0_ : Aside0 (w15.heap[gb160]? = some (.cells #[.int .i64 0, .int .i64 0, .int .i64 0] 77 (0, 0))) := ⟨by rw [← hq_]; exact (by (with_reducible repeat (first | refine blk_drewN ?_ _ | refine blk_drew ?_ | refine blk_alloc ?_ _)); exact BK160.out)⟩; have n1_ : Aside0 (Below w.heap.size w w15) := ⟨by rw [← hq_]; exact (by repeat (first | (with_reducible first | exact HB.out | apply below_alloc | apply pw_below_drewN | apply below_drew1 | refine below_set ?_ GE160.out) | exact HB.out))⟩; clear BK160 HB hq_; have BK160 := n0_; have HB := n1_; clear n0_ n1_)); have hcz16_0 : w15.cell? ⟨gb160, 0, none⟩ = some (.int .i64 0) := (blk_cell BK160.out 0).trans rfl; have hcz16_1 : w15.cell? ⟨gb160, 1, none⟩ = some (.int .i64 0) := (blk_cell BK160.out 1).trans rfl; have hcz16_2 : w15.cell? ⟨gb160, 2, none⟩ = some (.int .i64 0) := (blk_cell BK160.out 2).trans rfl; have hfz16_0 := blk_frozen BK160.out 0; have hfz16_1 := blk_frozen BK160.out 1; have hfz16_2 := blk_frozen BK160.out 2))
          refine bodyPost_ret (results_cell_row rfl _ _ gb160 77 #[.int .i64 0, .int .i64 (wrap64 (t164 + 4)), .int .i64 0] (0, 0) _ rfl (by (with_reducible repeat (first | refine blk_drewN ?_ _ | refine blk_drew ?_ | refine blk_alloc ?_ _)); refine blk_put (cs := #[.int .i64 0, .int .i64 (wrap64 (t164 + 4)), .int .i64 0]) ?_ 2 _ rfl; (with_reducible repeat (first | refine blk_drewN ?_ _ | refine blk_drew ?_ | refine blk_alloc ?_ _)); refine blk_put (cs := #[.int .i64 0, .int .i64 0, .int .i64 0]) ?_ 1 _ rfl; (with_reducible repeat (first | refine blk_drewN ?_ _ | refine blk_drew ?_ | refine blk_alloc ?_ _)); refine blk_put (cs := #[.int .i64 0, .int .i64 0, .int .i64 0]) ?_ 0 _ rfl; (with_reducible repeat (first | refine blk_drewN ?_ _ | refine blk_drew ?_ | refine blk_alloc ?_ _)); exact BK160.out) Tryd.underlying77 rfl (by kernel_rfl)) rfl ?_
          exact ⟨by first | rfl | (simp [errW_none, errW_some] <;> rfl) | (simp [*, errW_none, errW_some] <;> rfl), by repeat (first | (with_reducible first | exact HB.out | apply below_alloc | apply pw_below_drewN | apply below_drew1 | refine below_set ?_ GE160.out) | exact HB.out)⟩
        · rw [if_neg c14] at H
          have c14b0 : decide (0 ≤ t164) = false := decide_eq_false c14
          clear c14
          simp only [Option.some.injEq, Prod.mk.injEq] at H
          obtain ⟨rfl, rfl, rfl⟩ := H
          go_enter Tryd.func64, Tryd.ntmps64
          go_wp2_with (first | ((with_reducible refine gate_dst (N := 2) rfl ?_); refine box_event ?hg (N := 2) ?hd (cs := #[.int .i64 0, .int .i64 0, .int .i64 0]) (t := 77) ?hr ?_; (case hd => rfl); (case hg => rfl); (case hr => first | (go_simp; done) | (go_simp; rfl)); intro gb160 hg w17 hbox hb; have n0_ := Aside0.mk (below_step (by repeat (first | (with_reducible first | exact HB.out | apply below_alloc | apply pw_below_drewN | apply below_drew1) | exact HB.out)) hb); have n1_ := Aside0.mk (hbox); have n2_ := Aside0.mk ((by rw [hg]; exact (below_size (by repeat (first | (with_reducible first | exact HB.out | apply below_alloc | apply pw_below_drewN | apply below_drew1) | exact HB.out))) : w.heap.size ≤ gb160)); have n3_ := Aside0.mk ((by rw [hg]; exact (below_size (by repeat (first | (with_reducible first | exact HB.out | apply below_alloc | apply pw_below_drewN | apply below_drew1) | exact HB.out))) : w.heap.size ≤ gb160)); clear HB; have HB := n0_; have BK160 := n1_; have GW160 := n2_; have GE160 := n3_; clear n0_ n1_ n2_ n3_; clear hb hbox hg) | ((with_reducible refine gate_callee (f := 81) rfl ?_); refine goesL_ (some 7) rfl rfl Tryd.func81 (by kernel_rfl) rfl #[.string a0, .string (⟨#[47, 47]⟩ : ByteArray)] rfl (by (try simp only [List.map_toArray, List.map_cons, List.map_nil]); first | done | rfl | (simp only [List.length_drop, List.length_take]; rfl)) ?_; (with_reducible refine (strings_HasPrefix.calls a0 (⟨#[47, 47]⟩ : ByteArray) false _ A2.out).mono ?_); rintro e w' ⟨rfl, ⟨nd, rfl⟩⟩; refine ⟨_, rfl, ?_⟩; (try (rw [drewN_self w17]; generalize hq_ : World.drewN w17 _ = w17; have n0_ : Aside0 (w17.heap[gb160]? = some (.cells #[.int .i64 0, .int .i64 0, .int .i64 0] 77 (0, 0))) := ⟨by rw [← hq_]; exact (by (with_reducible repeat (first | refine blk_drewN ?_ _ | refine blk_drew ?_ | refine blk_alloc ?_ _)); exact BK160.out)⟩; have n1_ : Aside0 (Below w.heap.size w w17) := ⟨by rw [← hq_]; exact (by repeat (first | (with_reducible first | exact HB.out | apply below_alloc | apply pw_below_drewN | apply below_drew1 | refine below_set ?_ GE160.out) | exact HB.out))⟩; clear BK160 HB hq_; have BK160 := n0_; have HB := n1_; clear n0_ n1_))) | ((with_reducible refine gate_callee (f := 81) rfl ?_); refine goesL_ (some 19) rfl rfl Tryd.func81 (by kernel_rfl) rfl #[.string a0, .string (⟨#[47, 42]⟩ : ByteArray)] rfl (by (try simp only [List.map_toArray, List.map_cons, List.map_nil]); first | done | rfl | (simp only [List.length_drop, List.length_take]; rfl)) ?_; (with_reducible refine (strings_HasPrefix.calls a0 (⟨#[47, 42]⟩ : ByteArray) true _ A10.out).mono ?_); rintro e w' ⟨rfl, ⟨nd, rfl⟩⟩; refine ⟨_, rfl, ?_⟩; (try (rw [drewN_self w17]; generalize hq_ : World.drewN w17 _ = w17; have n0_ : Aside0 (w17.heap[gb160]? = some (.cells #[.int .i64 0, .int .i64 0, .int .i64 0] 77 (0, 0))) := ⟨by rw [← hq_]; exact (by (with_reducible repeat (first | refine blk_drewN ?_ _ | refine blk_drew ?_ | refine blk_alloc ?_ _)); exact BK160.out)⟩; have n1_ : Aside0 (Below w.heap.size w w17) := ⟨by rw [← hq_]; exact (by repeat (first | (with_reducible first | exact HB.out | apply below_alloc | apply pw_below_drewN | apply below_drew1 | refine below_set ?_ GE160.out) | exact HB.out))⟩; clear BK160 HB hq_; have BK160 := n0_; have HB := n1_; clear n0_ n1_))) | ((with_reducible refine gate_callee (f := 82) rfl ?_); refine goesL_ (some 22) rfl rfl Tryd.func82 (by kernel_rfl) rfl #[.string (a0.extract 2 a0.size), .string (⟨#[42, 47]⟩ : ByteArray)] rfl (by (try simp only [List.map_toArray, List.map_cons, List.map_nil]); first | done | rfl | (simp only [List.length_drop, List.length_take]; rfl)) ?_; (with_reducible refine (strings_Index.calls (a0.extract 2 a0.size) (⟨#[42, 47]⟩ : ByteArray) t164 _ A13.out (LaidW.below HL.out (by repeat (first | (with_reducible first | exact HB.out | apply below_alloc | apply pw_below_drewN | apply below_drew1) | exact HB.out | exact Below.refl _ _)))).mono ?_); rintro e w' ⟨rfl, ⟨nd, rfl⟩⟩; refine ⟨_, rfl, ?_⟩; (try (rw [drewN_self w17]; generalize hq_ : World.drewN w17 _ = w17; have n0_ : Aside0 (w17.heap[gb160]? = some (.cells #[.int .i64 0, .int .i64 0, .int .i64 0] 77 (0, 0))) := ⟨by rw [← hq_]; exact (by (with_reducible repeat (first | refine blk_drewN ?_ _ | refine blk_drew ?_ | refine blk_alloc ?_ _)); exact BK160.out)⟩; have n1_ : Aside0 (Below w.heap.size w w17) := ⟨by rw [← hq_]; exact (by repeat (first | (with_reducible first | exact HB.out | apply below_alloc | apply pw_below_drewN | apply below_drew1 | refine below_set ?_ GE160.out) | exact HB.out))⟩; clear BK160 HB hq_; have BK160 := n0_; have HB := n1_; clear n0_ n1_)); have hcz18_0 : w17.cell? ⟨gb160, 0, none⟩ = some (.int .i64 0) := (blk_cell BK160.out 0).trans rfl; have hcz18_1 : w17.cell? ⟨gb160, 1, none⟩ = some (.int .i64 0) := (blk_cell BK160.out 1).trans rfl; have hcz18_2 : w17.cell? ⟨gb160, 2, none⟩ = some (.int .i64 0) := (blk_cell BK160.out 2).trans rfl; have hfz18_0 := blk_frozen BK160.out 0; have hfz18_1 := blk_frozen BK160.out 1; have hfz18_2 := blk_frozen BK160.out 2))
          refine bodyPost_ret (results_cell_row rfl _ _ gb160 77 #[.int .i64 0, .int .i64 0, .int .i64 43] (0, 0) _ rfl (by (with_reducible repeat (first | refine blk_drewN ?_ _ | refine blk_drew ?_ | refine blk_alloc ?_ _)); refine blk_put (cs := #[.int .i64 0, .int .i64 0, .int .i64 0]) ?_ 2 _ rfl; (with_reducible repeat (first | refine blk_drewN ?_ _ | refine blk_drew ?_ | refine blk_alloc ?_ _)); refine blk_put (cs := #[.int .i64 0, .int .i64 0, .int .i64 0]) ?_ 1 _ rfl; (with_reducible repeat (first | refine blk_drewN ?_ _ | refine blk_drew ?_ | refine blk_alloc ?_ _)); refine blk_put (cs := #[.int .i64 0, .int .i64 0, .int .i64 0]) ?_ 0 _ rfl; (with_reducible repeat (first | refine blk_drewN ?_ _ | refine blk_drew ?_ | refine blk_alloc ?_ _)); exact BK160.out) Tryd.underlying77 rfl (by kernel_rfl)) rfl ?_
          exact ⟨by first | rfl | (simp [errW_none, errW_some] <;> rfl) | (simp [*, errW_none, errW_some] <;> rfl), by repeat (first | (with_reducible first | exact HB.out | apply below_alloc | apply pw_below_drewN | apply below_drew1 | refine below_set ?_ GE160.out) | exact HB.out)⟩
      · rw [if_neg c12] at H
        exact absurd H (by simp)
    · replace c11 := Bool.eq_false_iff.mpr c11
      subst c11
      have H1 : (some (0, 0, 40)) = some (r1, r2, r3) := by rw [if_neg (show ¬ (false = true) by decide)] at H; exact H
      clear H
      have H := H1
      clear H1
      simp only [Option.some.injEq, Prod.mk.injEq] at H
      obtain ⟨rfl, rfl, rfl⟩ := H
      go_enter Tryd.func64, Tryd.ntmps64
      go_wp2_with (first | ((with_reducible refine gate_dst (N := 2) rfl ?_); refine box_event ?hg (N := 2) ?hd (cs := #[.int .i64 0, .int .i64 0, .int .i64 0]) (t := 77) ?hr ?_; (case hd => rfl); (case hg => rfl); (case hr => first | (go_simp; done) | (go_simp; rfl)); intro gb160 hg w19 hbox hb; have n0_ := Aside0.mk (below_step (by repeat (first | (with_reducible first | exact HB.out | apply below_alloc | apply pw_below_drewN | apply below_drew1) | exact HB.out)) hb); have n1_ := Aside0.mk (hbox); have n2_ := Aside0.mk ((by rw [hg]; exact (below_size (by repeat (first | (with_reducible first | exact HB.out | apply below_alloc | apply pw_below_drewN | apply below_drew1) | exact HB.out))) : w.heap.size ≤ gb160)); have n3_ := Aside0.mk ((by rw [hg]; exact (below_size (by repeat (first | (with_reducible first | exact HB.out | apply below_alloc | apply pw_below_drewN | apply below_drew1) | exact HB.out))) : w.heap.size ≤ gb160)); clear HB; have HB := n0_; have BK160 := n1_; have GW160 := n2_; have GE160 := n3_; clear n0_ n1_ n2_ n3_; clear hb hbox hg) | ((with_reducible refine gate_callee (f := 81) rfl ?_); refine goesL_ (some 7) rfl rfl Tryd.func81 (by kernel_rfl) rfl #[.string a0, .string (⟨#[47, 47]⟩ : ByteArray)] rfl (by (try simp only [List.map_toArray, List.map_cons, List.map_nil]); first | done | rfl | (simp only [List.length_drop, List.length_take]; rfl)) ?_; (with_reducible refine (strings_HasPrefix.calls a0 (⟨#[47, 47]⟩ : ByteArray) false _ A2.out).mono ?_); rintro e w' ⟨rfl, ⟨nd, rfl⟩⟩; refine ⟨_, rfl, ?_⟩; (try (rw [drewN_self w19]; generalize hq_ : World.drewN w19 _ = w19; have n0_ : Aside0 (w19.heap[gb160]? = some (.cells #[.int .i64 0, .int .i64 0, .int .i64 0] 77 (0, 0))) := ⟨by rw [← hq_]; exact (by (with_reducible repeat (first | refine blk_drewN ?_ _ | refine blk_drew ?_ | refine blk_alloc ?_ _)); exact BK160.out)⟩; have n1_ : Aside0 (Below w.heap.size w w19) := ⟨by rw [← hq_]; exact (by repeat (first | (with_reducible first | exact HB.out | apply below_alloc | apply pw_below_drewN | apply below_drew1 | refine below_set ?_ GE160.out) | exact HB.out))⟩; clear BK160 HB hq_; have BK160 := n0_; have HB := n1_; clear n0_ n1_))) | ((with_reducible refine gate_callee (f := 81) rfl ?_); refine goesL_ (some 19) rfl rfl Tryd.func81 (by kernel_rfl) rfl #[.string a0, .string (⟨#[47, 42]⟩ : ByteArray)] rfl (by (try simp only [List.map_toArray, List.map_cons, List.map_nil]); first | done | rfl | (simp only [List.length_drop, List.length_take]; rfl)) ?_; (with_reducible refine (strings_HasPrefix.calls a0 (⟨#[47, 42]⟩ : ByteArray) false _ A10.out).mono ?_); rintro e w' ⟨rfl, ⟨nd, rfl⟩⟩; refine ⟨_, rfl, ?_⟩; (try (rw [drewN_self w19]; generalize hq_ : World.drewN w19 _ = w19; have n0_ : Aside0 (w19.heap[gb160]? = some (.cells #[.int .i64 0, .int .i64 0, .int .i64 0] 77 (0, 0))) := ⟨by rw [← hq_]; exact (by (with_reducible repeat (first | refine blk_drewN ?_ _ | refine blk_drew ?_ | refine blk_alloc ?_ _)); exact BK160.out)⟩; have n1_ : Aside0 (Below w.heap.size w w19) := ⟨by rw [← hq_]; exact (by repeat (first | (with_reducible first | exact HB.out | apply below_alloc | apply pw_below_drewN | apply below_drew1 | refine below_set ?_ GE160.out) | exact HB.out))⟩; clear BK160 HB hq_; have BK160 := n0_; have HB := n1_; clear n0_ n1_)); have hcz20_0 : w19.cell? ⟨gb160, 0, none⟩ = some (.int .i64 0) := (blk_cell BK160.out 0).trans rfl; have hcz20_1 : w19.cell? ⟨gb160, 1, none⟩ = some (.int .i64 0) := (blk_cell BK160.out 1).trans rfl; have hcz20_2 : w19.cell? ⟨gb160, 2, none⟩ = some (.int .i64 0) := (blk_cell BK160.out 2).trans rfl; have hfz20_0 := blk_frozen BK160.out 0; have hfz20_1 := blk_frozen BK160.out 1; have hfz20_2 := blk_frozen BK160.out 2))
      refine bodyPost_ret (results_cell_row rfl _ _ gb160 77 #[.int .i64 0, .int .i64 0, .int .i64 40] (0, 0) _ rfl (by (with_reducible repeat (first | refine blk_drewN ?_ _ | refine blk_drew ?_ | refine blk_alloc ?_ _)); refine blk_put (cs := #[.int .i64 0, .int .i64 0, .int .i64 0]) ?_ 2 _ rfl; (with_reducible repeat (first | refine blk_drewN ?_ _ | refine blk_drew ?_ | refine blk_alloc ?_ _)); refine blk_put (cs := #[.int .i64 0, .int .i64 0, .int .i64 0]) ?_ 1 _ rfl; (with_reducible repeat (first | refine blk_drewN ?_ _ | refine blk_drew ?_ | refine blk_alloc ?_ _)); refine blk_put (cs := #[.int .i64 0, .int .i64 0, .int .i64 0]) ?_ 0 _ rfl; (with_reducible repeat (first | refine blk_drewN ?_ _ | refine blk_drew ?_ | refine blk_alloc ?_ _)); exact BK160.out) Tryd.underlying77 rfl (by kernel_rfl)) rfl ?_
      exact ⟨by first | rfl | (simp [errW_none, errW_some] <;> rfl) | (simp [*, errW_none, errW_some] <;> rfl), by repeat (first | (with_reducible first | exact HB.out | apply below_alloc | apply pw_below_drewN | apply below_drew1 | refine below_set ?_ GE160.out) | exact HB.out)⟩

-- NOT PRINTED: function 44 (scan_begins)

/-! ### scan_Tokens: function 21 -/
def fnOf (c : Int) : Nat := if c = 0 then 57 else if c = 1 then 58 else if c = 2 then 59 else if c = 3 then 61 else if c = 4 then 62 else if c = 5 then 63 else 64
theorem begins_calls (w : World) : Calls Tryd.prog 44 #[] w fun e w' => e = .returned (.agg #[.func (.func 57) #[] #[], .func (.func 58) #[] #[], .func (.func 59) #[] #[], .func (.func 61) #[] #[], .func (.func 62) #[] #[], .func (.func 63) #[] #[], .func (.func 64) #[] #[]]) ∧ Below w.heap.size w w' := by
  go_enter Tryd.func44, Tryd.ntmps44
  go_wp2
  exact bodyPost_ret (v := .agg #[.func (.func 57) #[] #[], .func (.func 58) #[] #[], .func (.func 59) #[] #[], .func (.func 61) #[] #[], .func (.func 62) #[] #[], .func (.func 63) #[] #[], .func (.func 64) #[] #[]]) (by simp [results, Tryd.results44, go_sem]) rfl ⟨rfl, (Below.refl _ _).alloc (Nat.le_refl _) _⟩
theorem heap_lt {w : World} {i : Nat} {o : Obj} (h : w.heap[i]? = some o) : i < w.heap.size := (Array.getElem?_eq_some_iff.1 h).1
theorem disp0_calls (t : ByteArray) (w : World) : Calls Tryd.prog 57 #[.string t] w fun e w' => e = .returned (.agg #[.int .i64 0, .int .i64 0, .int .i64 40]) ∧ Below w.heap.size w w' := by
  go_enter Tryd.func57, Tryd.ntmps57
  go_wp2
  exact bodyPost_ret (v := .agg #[.int .i64 0, .int .i64 0, .int .i64 40]) (by simp [results, Tryd.results57, go_sem]) rfl ⟨rfl, (Below.refl _ _).alloc (Nat.le_refl _) _⟩
theorem disp1_calls (t : ByteArray) (w : World) : Calls Tryd.prog 58 #[.string t] w fun e w' => e = .returned (.agg #[.int .i64 0, .int .i64 1, .int .i64 0]) ∧ Below w.heap.size w w' := by
  go_enter Tryd.func58, Tryd.ntmps58
  go_wp2
  exact bodyPost_ret (v := .agg #[.int .i64 0, .int .i64 1, .int .i64 0]) (by simp [results, Tryd.results58, go_sem]) rfl ⟨rfl, (Below.refl _ _).alloc (Nat.le_refl _) _⟩
theorem disp5_calls (t : ByteArray) (w : World) : Calls Tryd.prog 63 #[.string t] w fun e w' => e = .returned (.agg #[.int .i64 4, .int .i64 1, .int .i64 0]) ∧ Below w.heap.size w w' := by
  go_enter Tryd.func63, Tryd.ntmps63
  go_wp2
  exact bodyPost_ret (v := .agg #[.int .i64 4, .int .i64 1, .int .i64 0]) (by simp [results, Tryd.results63, go_sem]) rfl ⟨rfl, (Below.refl _ _).alloc (Nat.le_refl _) _⟩
theorem disp2_calls (k : Nat) (t : ByteArray) (r : Int) (w : World) (h : scan_row.f k t = some r) : Calls Tryd.prog 59 #[.string t] w fun e w' => e = .returned (.agg #[.int .i64 1, .int .i64 r, .int .i64 0]) ∧ Below w.heap.size w w' := by
  have A := Aside0.mk h
  clear h
  go_enter Tryd.func59, Tryd.ntmps59
  go_wp2_with (go_at_call 60; refine (scan_row.calls k t r _ A.out).mono ?_; rintro e w' ⟨rfl, ⟨nd, rfl⟩⟩)
  exact bodyPost_ret (v := .agg #[.int .i64 1, .int .i64 r, .int .i64 0]) (by simp [results, Tryd.results59, go_sem]) rfl ⟨rfl, (((pw_below_drewN ((Below.refl _ _).alloc (Nat.le_refl _) _) nd).setCell (by simp) _).setCell (by simp) _).setCell (by simp) _⟩

def scan_disp (k : Nat) (c : Int) (t : ByteArray) : Option (Int × Int × Int) := if c = 0 then some (0, 0, 40) else if c = 1 then some (0, 1, 0) else if c = 2 then (scan_row.f k t).bind fun n => some (1, n, 0) else if c = 3 then scan_number.f k t else if c = 4 then scan_str.f k t else if c = 5 then some (4, 1, 0) else if c = 6 then scan_comment.f t else none

theorem disp_calls (k : Nat) (c : Int) (t : ByteArray) (r1 r2 r3 : Int) (h : scan_disp k c t = some (r1, r2, r3)) : 0 ≤ c ∧ c < 7 ∧ ∀ w, LaidW w → Calls Tryd.prog (fnOf c) #[.string t] w fun e w' => e = .returned (.agg #[.int .i64 r1, .int .i64 r2, .int .i64 r3]) ∧ Below w.heap.size w w' := by
  unfold scan_disp at h
  by_cases c0 : c = 0
  · subst c0
    simp only [if_true, Option.some.injEq, Prod.mk.injEq] at h
    obtain ⟨rfl, rfl, rfl⟩ := h
    exact ⟨by omega, by omega, fun w _ => disp0_calls t w⟩
  rw [if_neg c0] at h
  by_cases c1 : c = 1
  · subst c1
    simp only [if_true, Option.some.injEq, Prod.mk.injEq] at h
    obtain ⟨rfl, rfl, rfl⟩ := h
    exact ⟨by omega, by omega, fun w _ => disp1_calls t w⟩
  rw [if_neg c1] at h
  by_cases c2 : c = 2
  · subst c2
    rw [if_pos rfl] at h
    obtain ⟨n, hn, h⟩ := Option.bind_eq_some_iff.mp h
    simp only [Option.some.injEq, Prod.mk.injEq] at h
    obtain ⟨rfl, rfl, rfl⟩ := h
    exact ⟨by omega, by omega, fun w _ => disp2_calls k t n w hn⟩
  rw [if_neg c2] at h
  by_cases c3 : c = 3
  · subst c3
    rw [if_pos rfl] at h
    exact ⟨by omega, by omega, fun w _ => scan_number.calls k t r1 r2 r3 w h⟩
  rw [if_neg c3] at h
  by_cases c4 : c = 4
  · subst c4
    rw [if_pos rfl] at h
    exact ⟨by omega, by omega, fun w _ => scan_str.calls k t r1 r2 r3 w h⟩
  rw [if_neg c4] at h
  by_cases c5 : c = 5
  · subst c5
    simp only [if_true, Option.some.injEq, Prod.mk.injEq] at h
    obtain ⟨rfl, rfl, rfl⟩ := h
    exact ⟨by omega, by omega, fun w _ => disp5_calls t w⟩
  rw [if_neg c5] at h
  by_cases c6 : c = 6
  · subst c6
    rw [if_pos rfl] at h
    exact ⟨by omega, by omega, fun w hL => scan_comment.calls t r1 r2 r3 w h hL⟩
  · rw [if_neg c6] at h
    cases h
theorem below_weaken {w W : World} (h : Below w.heap.size w W) : Below w.heap.size w W := h
theorem bcell {W w1 : World} (hb : Below W.heap.size W w1) : (∀ b o, b < W.heap.size → w1.cell? ⟨b, o, none⟩ = W.cell? ⟨b, o, none⟩) ∧ (∀ b o, b < W.heap.size → w1.frozen? ⟨b, o, none⟩ = W.frozen? ⟨b, o, none⟩) :=
  ⟨fun b o h => hb.cell (p := ⟨b, o, none⟩) h, fun b o h => hb.frozen (p := ⟨b, o, none⟩) h⟩
theorem enter_of {f : FuncId} {fn : Func} {c : Code} (hf : Tryd.prog.funcs[f]? = some fn) (hname : (fn.name == "runtime.NumGoroutine") = false) (hb : fn.body = some c) (args : Array Value) (w : World) :
    Sem.run Tryd.prog (callFunc f args) w = .ok (.enter f args) w := by
  have h1 : fn.name ≠ "runtime.NumGoroutine" := by simpa using hname
  simp [callFunc, hf, h1, hb]
theorem enter_disp (cn : Nat) (h : cn < 7) (args : Array Value) (w : World) : Sem.run Tryd.prog (callFunc (fnOf (cn : Int)) args) w = .ok (.enter (fnOf (cn : Int)) args) w := by
  match cn, h with
  | 0, _ => exact enter_of Tryd.func57 (by kernel_rfl) rfl args w
  | 1, _ => exact enter_of Tryd.func58 (by kernel_rfl) rfl args w
  | 2, _ => exact enter_of Tryd.func59 (by kernel_rfl) rfl args w
  | 3, _ => exact enter_of Tryd.func61 (by kernel_rfl) rfl args w
  | 4, _ => exact enter_of Tryd.func62 (by kernel_rfl) rfl args w
  | 5, _ => exact enter_of Tryd.func63 (by kernel_rfl) rfl args w
  | 6, _ => exact enter_of Tryd.func64 (by kernel_rfl) rfl args w
theorem boxed_at {W0 w5 : World} {a b c : Value} (g : Nat) (hb : Below (W0.alloc (.cells #[a, b, c] 77)).heap.size (W0.alloc (.cells #[a, b, c] 77)) w5) (hg : g = W0.heap.size) :
    w5.cell? ⟨g, 0, none⟩ = some a ∧ w5.cell? ⟨g, 1, none⟩ = some b ∧ w5.cell? ⟨g, 2, none⟩ = some c ∧ w5.frozen? ⟨g, 0, none⟩ = false ∧ w5.frozen? ⟨g, 1, none⟩ = false ∧ w5.frozen? ⟨g, 2, none⟩ = false := by
  subst hg
  exact ⟨(hb.cell (p := ⟨W0.heap.size, 0, none⟩) (by simp)).trans (by simp), (hb.cell (p := ⟨W0.heap.size, 1, none⟩) (by simp)).trans (by simp), (hb.cell (p := ⟨W0.heap.size, 2, none⟩) (by simp)).trans (by simp), (hb.frozen (p := ⟨W0.heap.size, 0, none⟩) (by simp)).trans (by simp), (hb.frozen (p := ⟨W0.heap.size, 1, none⟩) (by simp)).trans (by simp), (hb.frozen (p := ⟨W0.heap.size, 2, none⟩) (by simp)).trans (by simp)⟩
theorem boxed_n {W0 w5 : World} {a b c : Value} {n : Nat} (g : Nat) (hb : Below ((W0.alloc (.cells #[a, b, c] 77)).drewN n).heap.size ((W0.alloc (.cells #[a, b, c] 77)).drewN n) w5) (hg : g = W0.heap.size) :
    w5.cell? ⟨g, 0, none⟩ = some a ∧ w5.cell? ⟨g, 1, none⟩ = some b ∧ w5.cell? ⟨g, 2, none⟩ = some c ∧ w5.frozen? ⟨g, 0, none⟩ = false ∧ w5.frozen? ⟨g, 1, none⟩ = false ∧ w5.frozen? ⟨g, 2, none⟩ = false := by
  subst hg
  exact ⟨(hb.cell (p := ⟨W0.heap.size, 0, none⟩) (by simp)).trans (by simp), (hb.cell (p := ⟨W0.heap.size, 1, none⟩) (by simp)).trans (by simp), (hb.cell (p := ⟨W0.heap.size, 2, none⟩) (by simp)).trans (by simp), (hb.frozen (p := ⟨W0.heap.size, 0, none⟩) (by simp)).trans (by simp), (hb.frozen (p := ⟨W0.heap.size, 1, none⟩) (by simp)).trans (by simp), (hb.frozen (p := ⟨W0.heap.size, 2, none⟩) (by simp)).trans (by simp)⟩
theorem set3 {w5 : World} {g : Nat} {a b c : Value} (f0 : w5.cell? ⟨g, 0, none⟩ = some a) (f1 : w5.cell? ⟨g, 1, none⟩ = some b) (f2 : w5.cell? ⟨g, 2, none⟩ = some c) (x y z : Value) :
    (((w5.setCell ⟨g, 0, none⟩ x).setCell ⟨g, 1, none⟩ y).setCell ⟨g, 2, none⟩ z).cell? ⟨g, 0, none⟩ = some x ∧ (((w5.setCell ⟨g, 0, none⟩ x).setCell ⟨g, 1, none⟩ y).setCell ⟨g, 2, none⟩ z).cell? ⟨g, 1, none⟩ = some y ∧ (((w5.setCell ⟨g, 0, none⟩ x).setCell ⟨g, 1, none⟩ y).setCell ⟨g, 2, none⟩ z).cell? ⟨g, 2, none⟩ = some z := by
  refine ⟨?_, ?_, ?_⟩ <;> simp [go_sem, f0, f1, f2]
/-- The two ways in which the region ends: the box is laid behind the call, or ahead of it. -/
theorem ends_after {w wr W w5 : World} {g2 : Nat} {v6 : Value} {l : List S40} {o : Obj} (p1 p2 p3 : Int) (hg2 : w.heap.size ≤ g2) (HG : wr.heap[g2]? = some o) (HO : Kd.R k40 40 wr w.heap.size (fun b => b ≠ g2) v6 l) (HB : Below w.heap.size w wr)
    (hW : Below wr.heap.size wr W) (hb : Below W.heap.size W w5) :
    (w.heap.size ≤ w5.heap.size ∧ w5.heap.size ≠ g2) ∧ ((w5.alloc (.cells #[.int .i64 p1, .int .i64 p2, .int .i64 p3] 77)).cell? ⟨w5.heap.size, 0, none⟩ = some (.int .i64 p1) ∧ (w5.alloc (.cells #[.int .i64 p1, .int .i64 p2, .int .i64 p3] 77)).cell? ⟨w5.heap.size, 1, none⟩ = some (.int .i64 p2) ∧ (w5.alloc (.cells #[.int .i64 p1, .int .i64 p2, .int .i64 p3] 77)).cell? ⟨w5.heap.size, 2, none⟩ = some (.int .i64 p3)) ∧
      Kd.R k40 40 (w5.alloc (.cells #[.int .i64 p1, .int .i64 p2, .int .i64 p3] 77)) w.heap.size (fun b => b ≠ g2 ∧ b ≠ w5.heap.size) v6 l ∧ (w5.alloc (.cells #[.int .i64 p1, .int .i64 p2, .int .i64 p3] 77)).heap[g2]? = some o ∧ Below w.heap.size w (w5.alloc (.cells #[.int .i64 p1, .int .i64 p2, .int .i64 p3] 77)) := by
  have hlt := heap_lt HG
  have h5 : Below wr.heap.size wr w5 := below_then hW hW.size hb
  have hs := h5.size
  have hB5 : Below w.heap.size w w5 := below_then HB HB.size h5
  have hG5 : w5.heap[g2]? = some o := (h5.block g2 hlt).trans HG
  refine ⟨⟨hB5.size, by omega⟩, ⟨by simp, by simp, by simp⟩, Kd.R_alloc (Kd.R_mono (Kd.R_bound (Kd.R_below HO h5)) (fun k hk => ⟨hk.1, Nat.ne_of_lt hk.2.2.1⟩)) _, ?_, below_alloc hB5 _⟩
  rw [heap_alloc_old _ _ (by omega)]
  exact hG5
theorem ends_ahead {w wr W w5 : World} {g2 : Nat} {v6 : Value} {l : List S40} {o : Obj} (p1 p2 p3 : Int) (hg2 : w.heap.size ≤ g2) (HG : wr.heap[g2]? = some o) (HO : Kd.R k40 40 wr w.heap.size (fun b => b ≠ g2) v6 l) (HB : Below w.heap.size w wr)
    (hW : Below wr.heap.size wr W) (hb : Below W.heap.size W w5) {a b c : Value} (f0 : w5.cell? ⟨wr.heap.size, 0, none⟩ = some a) (f1 : w5.cell? ⟨wr.heap.size, 1, none⟩ = some b) (f2 : w5.cell? ⟨wr.heap.size, 2, none⟩ = some c) :
    (w.heap.size ≤ wr.heap.size ∧ wr.heap.size ≠ g2) ∧ ((((w5.setCell ⟨wr.heap.size, 0, none⟩ (.int .i64 p1)).setCell ⟨wr.heap.size, 1, none⟩ (.int .i64 p2)).setCell ⟨wr.heap.size, 2, none⟩ (.int .i64 p3)).cell? ⟨wr.heap.size, 0, none⟩ = some (.int .i64 p1) ∧ (((w5.setCell ⟨wr.heap.size, 0, none⟩ (.int .i64 p1)).setCell ⟨wr.heap.size, 1, none⟩ (.int .i64 p2)).setCell ⟨wr.heap.size, 2, none⟩ (.int .i64 p3)).cell? ⟨wr.heap.size, 1, none⟩ = some (.int .i64 p2) ∧ (((w5.setCell ⟨wr.heap.size, 0, none⟩ (.int .i64 p1)).setCell ⟨wr.heap.size, 1, none⟩ (.int .i64 p2)).setCell ⟨wr.heap.size, 2, none⟩ (.int .i64 p3)).cell? ⟨wr.heap.size, 2, none⟩ = some (.int .i64 p3)) ∧
      Kd.R k40 40 (((w5.setCell ⟨wr.heap.size, 0, none⟩ (.int .i64 p1)).setCell ⟨wr.heap.size, 1, none⟩ (.int .i64 p2)).setCell ⟨wr.heap.size, 2, none⟩ (.int .i64 p3)) w.heap.size (fun b => b ≠ g2 ∧ b ≠ wr.heap.size) v6 l ∧ (((w5.setCell ⟨wr.heap.size, 0, none⟩ (.int .i64 p1)).setCell ⟨wr.heap.size, 1, none⟩ (.int .i64 p2)).setCell ⟨wr.heap.size, 2, none⟩ (.int .i64 p3)).heap[g2]? = some o ∧ Below w.heap.size w (((w5.setCell ⟨wr.heap.size, 0, none⟩ (.int .i64 p1)).setCell ⟨wr.heap.size, 1, none⟩ (.int .i64 p2)).setCell ⟨wr.heap.size, 2, none⟩ (.int .i64 p3)) := by
  have hlt := heap_lt HG
  have h5 : Below wr.heap.size wr w5 := below_then hW hW.size hb
  have hs := h5.size
  have hB5 : Below w.heap.size w w5 := below_then HB HB.size h5
  have hG5 : w5.heap[g2]? = some o := (h5.block g2 hlt).trans HG
  have hR : Kd.R k40 40 w5 w.heap.size (fun b => b ≠ g2 ∧ b < wr.heap.size) v6 l := Kd.R_below (Kd.R_mono (Kd.R_bound HO) (fun k hk => ⟨hk.1, hk.2.2.1⟩)) h5
  refine ⟨⟨HB.size, by omega⟩, set3 f0 f1 f2 _ _ _, ?_, ?_, ((hB5.setCell HB.size _).setCell HB.size _).setCell HB.size _⟩
  · refine Kd.R_mono (Kd.R_far (Kd.R_far (Kd.R_far hR (fun k hk => Nat.ne_of_lt hk.2) _) (fun k hk => Nat.ne_of_lt hk.2) _) (fun k hk => Nat.ne_of_lt hk.2) _) (fun k hk => ⟨hk.1, Nat.ne_of_lt hk.2⟩)
  · rw [Below.heap_setCell _ _ _ _ (show g2 ≠ wr.heap.size by omega), Below.heap_setCell _ _ _ _ (show g2 ≠ wr.heap.size by omega), Below.heap_setCell _ _ _ _ (show g2 ≠ wr.heap.size by omega)]
    exact hG5
theorem grown_cell {W w9 : World} {row : Option Nat} (hg : W.grownBy w9 row) {b : Nat} (hb : b < W.heap.size) (hne : some b ≠ row) (j : Nat) : w9.cell? ⟨b, j, none⟩ = W.cell? ⟨b, j, none⟩ := by
  unfold World.cell?
  rw [hg.block b hb hne]
theorem cells_does {w : World} {g : Nat} (h : w.heap[g]? = some (.cells #[.func (.func 57) #[] #[], .func (.func 58) #[] #[], .func (.func 59) #[] #[], .func (.func 61) #[] #[], .func (.func 62) #[] #[], .func (.func 63) #[] #[], .func (.func 64) #[] #[]] 74 (0, 0))) :
    ∀ i : Nat, i < 7 → w.cell? ⟨g, i, none⟩ = some (.func (.func (fnOf i)) #[] #[]) := by
  intro i hi
  unfold World.cell?
  rw [h]
  match i, hi with
  | 0, _ => rfl
  | 1, _ => rfl
  | 2, _ => rfl
  | 3, _ => rfl
  | 4, _ => rfl
  | 5, _ => rfl
  | 6, _ => rfl
def scan_Tokens.l0 : Nat → ByteArray → List S40 → Int → Option (List S40 × Int × Int)
  | 0, _, _, _ => none
  | k + 1, s, l, at_ => if at_ = (s.size : Int) then (if l.length < 4398046511104 then some (l ++ [(⟨5, at_, (⟨#[]⟩ : ByteArray)⟩ : S40)], 0, 0) else none) else (if 0 ≤ at_ then (if at_ < (s.size : Int) then ((scan_class.f k (bt s at_)).bind fun c => ((scan_disp k c (s.extract at_.toNat s.size)).bind fun p =>
      (if ¬ ((p.1 = 0 ∧ p.2.2 = 0) ∨ p.2.2 = 43) ∧ (l.length : Int) ≥ 16383 then some (([] : List S40), at_, 45)
      else if p.2.2 ≠ 0 then some (([] : List S40), at_, p.2.2)
      else if p.1 = 0 then scan_Tokens.l0 k s l (wrap64 (at_ + p.2.1))
      else if at_ ≤ wrap64 (at_ + p.2.1) then (if wrap64 (at_ + p.2.1) ≤ (s.size : Int) then (if l.length < 4398046511104 then scan_Tokens.l0 k s (l ++ [(⟨p.1, at_, s.extract at_.toNat (wrap64 (at_ + p.2.1)).toNat⟩ : S40)]) (wrap64 (at_ + p.2.1)) else none) else none) else none))) else none) else none)
def scan_Tokens.f (k : Nat) (a0 : ByteArray) : Option (List S40 × Int × Int) := if (a0.size : Int) > 65536 then some (([] : List S40), 0, 2) else ((wire_Utf8.f k a0).bind fun t => if t ≥ 0 then some (([] : List S40), t, 44) else scan_Tokens.l0 k a0 ([] : List S40) 0)
set_option maxHeartbeats 8000000 in
set_option maxRecDepth 100000 in
theorem scan_Tokens.calls (k : Nat) (a0 : ByteArray) (r1 : List S40) (r2 : Int) (r3 : Int) (w : World) (h : scan_Tokens.f k a0 = some (r1, r2, r3)) (hL : LaidW w) :
    Calls Tryd.prog 21 #[.string a0] w fun e w' => ∃ v0_ : Value, e = .returned (.tuple #[v0_, .int .i64 r2, .int .i64 r3]) ∧ Kd.R k40 40 w' w.heap.size (fun _ => True) v0_ r1 ∧ Below w.heap.size w w' := by
  have HL := Aside0.mk hL
  clear hL
  have HB := Aside0.mk (Below.refl w.heap.size w)
  unfold scan_Tokens.f at h
  by_cases c2 : (a0.size : Int) > 65536
  · rw [if_pos c2] at h
    have c2b0 : decide (65536 < (a0.size : Int)) = true := decide_eq_true c2
    have c2b1 : decide (65536 < a0.size) = true := decide_eq_true (by omega)
    clear c2
    simp only [Option.some.injEq, Prod.mk.injEq] at h
    obtain ⟨rfl, rfl, rfl⟩ := h
    go_enter Tryd.func21, Tryd.ntmps21
    go_wp2
    go_step3
    go_wp2
    rw [Exit.noGoto_ret]
    go_ret3
    exact ⟨_, rfl, Kd.R_nil _ _ _ _ _, HB.out⟩
  · rw [if_neg c2] at h
    have c2b0 : decide (65536 < (a0.size : Int)) = false := decide_eq_false c2
    have c2b1 : decide (65536 < a0.size) = false := decide_eq_false (by omega)
    have c2s := Aside0.mk (show a0.size ≤ 65536 by omega)
    clear c2
    replace h := Option.bind_eq_some_iff.mp h
    obtain ⟨t, A30, h⟩ := h
    have A3 := Aside0.mk A30
    clear A30
    by_cases c4 : t ≥ 0
    · rw [if_pos c4] at h
      have c4b0 : decide (0 ≤ t) = true := decide_eq_true c4
      clear c4
      simp only [Option.some.injEq, Prod.mk.injEq] at h
      obtain ⟨rfl, rfl, rfl⟩ := h
      go_enter Tryd.func21, Tryd.ntmps21
      go_wp2
      go_step3
      go_wp2_with (go_at_call 29; refine (wire_Utf8.calls k a0 t _ A3.out HL.out).mono ?_; rintro e w1 ⟨rfl, hb⟩; have n0_ := Aside0.mk hb; clear HB; have HB := n0_; clear n0_ hb)
      rw [Exit.noGoto_ret]
      go_ret3
      exact ⟨_, rfl, Kd.R_nil _ _ _ _ _, HB.out⟩
    · rw [if_neg c4] at h
      have c4b0 : decide (0 ≤ t) = false := decide_eq_false c4
      clear c4
      have H' := Aside0.mk h
      clear h
      go_enter Tryd.func21, Tryd.ntmps21
      go_wp2
      go_step3
      go_wp2_with (first | (go_at_call 29; refine (wire_Utf8.calls k a0 t _ A3.out HL.out).mono ?_; rintro e w1 ⟨rfl, hb⟩; have n0_ := Aside0.mk hb; clear HB; have HB := n0_; clear n0_ hb) | (go_at_call 44; refine (begins_calls _).mono ?_; rintro e w2 ⟨rfl, hb⟩; have n0_ := Aside0.mk (below_then HB.out HB.out.size hb); have HS := Aside0.mk (Nat.le_trans HB.out.size hb.size); clear HB hb; have HB := n0_; clear n0_))
      have hb0 := HB.out
      have hs0 := HS.out
      go_step3
      go_wp2
      go_loopg [6, 8] k (fun kq v6 v8 w' => ∃ (l : List S40) (x8 : Int), v8 = .int .i64 x8 ∧ Aside0 (scan_Tokens.l0 kq a0 l x8 = some (r1, r2, r3)) ∧ Aside0 (kq ≤ k) ∧ Aside0 (Kd.R k40 40 w' w.heap.size (fun b => b ≠ w2.heap.size) v6 l) ∧ Aside0 (w'.heap[w2.heap.size]? = some (.cells #[.func (.func 57) #[] #[], .func (.func 58) #[] #[], .func (.func 59) #[] #[], .func (.func 61) #[] #[], .func (.func 62) #[] #[], .func (.func 63) #[] #[], .func (.func 64) #[] #[]] 74 (0, 0))) ∧ Aside0 (Below w.heap.size w w'))
      case atStart => exact ⟨[], 0, rfl, H', ⟨Nat.le_refl _⟩, ⟨Kd.R_nil _ _ _ _ _⟩, ⟨heap_alloc_new _ _⟩, ⟨below_alloc hb0 _⟩⟩
      case round =>
        clear H' HB hb0
        obtain ⟨l, x8, rfl, HA, HK1, HO, HG, HB⟩ := hrel
        cases gk with
        | zero => exact absurd HA.out (by simp [scan_Tokens.l0])
        | succ k1 =>
          have H := HA.out
          clear HA
          simp only [scan_Tokens.l0] at H
          by_cases c5 : x8 = (a0.size : Int)
          · rw [if_pos c5] at H
            have c5b0 : (x8 == (a0.size : Int)) = true := beq_iff_eq.mpr c5
            clear c5
            by_cases c6 : l.length < 4398046511104
            · rw [if_pos c6] at H
              have LM := Aside0.mk c6
              clear c6
              simp only [Option.some.injEq, Prod.mk.injEq] at H
              obtain ⟨rfl, rfl, rfl⟩ := H
              have hlt := Aside0.mk (heap_lt HG.out)
              go_wp2_with (first | ((with_reducible refine gate_builtin (b := .append) (xs := #[.tmp 89, .tmp 92]) rfl ?_); at_builtin; refine Kd.R_append k40 (w0 := w) w.heap.size rfl (.tmp 89) (.tmp 92) 36 40 (.agg #[(.int .i64 0), (.int .i64 0), (.string ⟨#[]⟩)]) 32 rfl Tryd.underlying36 info40 rfl (by decide) (by omega) u6 l (⟨5, x8, (⟨#[]⟩ : ByteArray)⟩ : S40) [.int .i64 5, .int .i64 x8, .string (⟨#[]⟩ : ByteArray)] (fun b => b ≠ w2.heap.size) (fun _ => False) rfl rfl ?aP (fun _ hk => hk.elim) ?aF ?aO ?aB ?aS ?aL ?_; (case aP => exact k40_mkM _ _ _ (⟨5, x8, (⟨#[]⟩ : ByteArray)⟩ : S40)); (case aB => exact (by repeat (first | (with_reducible first | exact HB.out | apply below_alloc | apply pw_below_drewN | apply below_drew1) | exact HB.out))); (case aF => exact (fun b hb => Nat.ne_of_gt (Nat.lt_of_lt_of_le hlt.out hb))); (case aO => exact (by (with_reducible repeat (first | apply Kd.R_alloc | apply Kd.R_drewN | apply Kd.R_drew)); exact HO.out)); (case aS => exact (below_size (by repeat (first | (with_reducible first | exact HB.out | apply below_alloc | apply pw_below_drewN | apply below_drew1) | exact HB.out)))); (case aL => have := LM.out; omega); intro v148 w9 ho hb hg hat; have n0_ := Aside0.mk (hb); have n1_ := Aside0.mk (ho); clear HB; clear HO; have HB := n0_; have HO := n1_; clear n0_ n1_; clear ho hb hg hat))
              rw [Exit.noGoto_ret]
              go_ret3
              exact ⟨_, rfl, Kd.R_mono HO.out (fun _ _ => trivial), HB.out⟩
            · rw [if_neg c6] at H
              cases H
          · rw [if_neg c5] at H
            have c5b0 : (x8 == (a0.size : Int)) = false := beq_eq_false_iff_ne.mpr c5
            clear c5
            by_cases c6 : 0 ≤ x8
            · rw [if_pos c6] at H
              by_cases c7 : x8 < (a0.size : Int)
              · rw [if_pos c7] at H
                have hx := bt_at a0 x8
                have p4 := eq_true c6
                have q4 := eq_true c7
                have p4b : decide (0 ≤ x8) = true := decide_eq_true c6
                have q4b : decide (x8 ≤ (a0.size : Int)) = true := decide_eq_true (by omega)
                have q4c := eq_true (show x8 ≤ (a0.size : Int) by omega)
                replace H := Option.bind_eq_some_iff.mp H
                obtain ⟨c, A8, H⟩ := H
                replace H := Option.bind_eq_some_iff.mp H
                obtain ⟨⟨p1, p2, p3⟩, A9, H⟩ := H
                replace A8 := Aside0.mk A8
                replace A9 := Aside0.mk A9
                replace H := Aside0.mk H
                go_upto_region 10 with (fail)
                go_cut [9] (fun v9 wc => ∃ g : Nat, v9 = .pointer (some ⟨g, 0, none⟩) ∧ Aside0 (w.heap.size ≤ g ∧ g ≠ w2.heap.size) ∧ Aside0 (wc.cell? ⟨g, 0, none⟩ = some (.int .i64 p1) ∧ wc.cell? ⟨g, 1, none⟩ = some (.int .i64 p2) ∧ wc.cell? ⟨g, 2, none⟩ = some (.int .i64 p3)) ∧ Aside0 (Kd.R k40 40 wc w.heap.size (fun b => b ≠ w2.heap.size ∧ b ≠ g) u6 l) ∧ Aside0 (wc.heap[w2.heap.size]? = some (.cells #[.func (.func 57) #[] #[], .func (.func 58) #[] #[], .func (.func 59) #[] #[], .func (.func 61) #[] #[], .func (.func 62) #[] #[], .func (.func 63) #[] #[], .func (.func 64) #[] #[]] 74 (0, 0))) ∧ Aside0 (Below w.heap.size w wc))
                case first =>
                  obtain ⟨hc0, hc7, hd⟩ := disp_calls k1 c _ p1 p2 p3 A9.out
                  replace hd := Aside0.mk hd
                  have HLr := Aside0.mk (HL.out.below HB.out)
                  have hgl := heap_lt HG.out
                  have hcell := cells_does HG.out
                  obtain ⟨cn, rfl⟩ := Int.eq_ofNat_of_zero_le hc0
                  have hcn : cn < 7 := by omega
                  have hcn1 := eq_true hc0
                  have hcn2 := eq_true hc7
                  have hcn3 := eq_true hcn
                  have hcn4 : decide ((cn : Int) < 7) = true := decide_eq_true hc7
                  have hc2 : wr.cell? ⟨w2.heap.size, cn, none⟩ = some (.func (.func (fnOf cn)) #[] #[]) := hcell cn hcn
                  have hc2a : ∀ o, (wr.alloc o).cell? ⟨w2.heap.size, cn, none⟩ = some (.func (.func (fnOf cn)) #[] #[]) := fun o => (World.cell?_alloc_lt (w := wr) (o := o) (a := ⟨w2.heap.size, cn, none⟩) hgl).trans hc2
                  have hc2b : ∀ n o, ((wr.drewN n).alloc o).cell? ⟨w2.heap.size, cn, none⟩ = some (.func (.func (fnOf cn)) #[] #[]) := fun n o => (World.cell?_alloc_lt (w := wr.drewN n) (o := o) (a := ⟨w2.heap.size, cn, none⟩) hgl).trans hc2
                  have hent := enter_disp cn hcn
                  clear hcell
                  go_region_with (first | (go_at_call 45; refine (scan_class.calls k1 (bt a0 x8) (cn : Int) _ A8.out).mono ?_; rintro e w' ⟨rfl, ⟨nd, rfl⟩⟩) | (refine (hd.out _ (LaidW.below HLr.out (by repeat (first | exact Below.refl _ _ | apply below_alloc | apply pw_below_drewN | apply below_drew1)))).mono ?_; rintro e w5 ⟨rfl, hb⟩; have hz := hb.size; first | (have F := boxed_at wr.heap.size hb rfl; obtain ⟨f0, f1, f2, g0, g1, g2⟩ := F) | (have F := boxed_n wr.heap.size hb rfl; obtain ⟨f0, f1, f2, g0, g1, g2⟩ := F) | skip))
                  all_goals go_wp2
                  all_goals go_meet
                  all_goals first | (have E := ends_after p1 p2 p3 hs0 HG.out HO.out HB.out (by repeat (first | exact Below.refl _ _ | apply below_alloc | apply pw_below_drewN | apply below_drew1)) hb; exact ⟨_, rfl, ⟨E.1⟩, ⟨E.2.1⟩, ⟨E.2.2.1⟩, ⟨E.2.2.2.1⟩, ⟨E.2.2.2.2⟩⟩) | (have E := ends_ahead p1 p2 p3 hs0 HG.out HO.out HB.out (by repeat (first | exact Below.refl _ _ | apply below_alloc | apply pw_below_drewN | apply below_drew1)) hb f0 f1 f2; exact ⟨_, rfl, ⟨E.1⟩, ⟨E.2.1⟩, ⟨E.2.2.1⟩, ⟨E.2.2.2.1⟩, ⟨E.2.2.2.2⟩⟩)
                case rest =>
                  clear HO HG HB
                  obtain ⟨g, rfl, HGg, HC, HO, HG, HB⟩ := hcut
                  obtain ⟨hc1, hc2, hc3⟩ := HC.out
                  replace H := H.out
                  dsimp only at H
                  obtain ⟨Ao, co, eo⟩ := Kd.R_slice HO.out
                  subst eo
                  clear HC A8 A9 q4 q4b q4c hx c7
                  by_cases e3 : p3 = 0
                  · have b3 : (p3 == 0) = true := beq_iff_eq.mpr e3
                    have b3n : (p3 != 0) = false := bne_eq_false_iff_eq.mpr e3
                    have b43 : (p3 == 43) = false := beq_eq_false_iff_ne.mpr (by omega)
                    by_cases e1 : p1 = 0
                    · have b1 : (p1 == 0) = true := beq_iff_eq.mpr e1
                      rw [if_neg (by omega), if_neg (by omega), if_pos e1] at H
                      have H' := Aside0.mk H
                      clear H e1 e3
                      go_wp2
                      go_roundg k1
                      case measure => have := HK1.out; omega
                      case rel => exact ⟨l, _, rfl, H', ⟨by have := HK1.out; omega⟩, ⟨Kd.R_mono HO.out (fun _ h => h.1)⟩, HG, HB⟩
                    · have b1 : (p1 == 0) = false := beq_eq_false_iff_ne.mpr e1
                      by_cases eL : (l.length : Int) ≥ 16383
                      · have bL : decide ((16383 : Int) ≤ (l.length : Int)) = true := decide_eq_true eL
                        have bL2 : decide (16383 ≤ l.length) = true := decide_eq_true (by omega)
                        rw [if_pos ⟨by omega, eL⟩] at H
                        simp only [Option.some.injEq, Prod.mk.injEq] at H
                        obtain ⟨rfl, rfl, rfl⟩ := H
                        clear e1 e3 eL
                        go_wp2
                        rw [Exit.noGoto_ret]
                        go_ret3
                        exact ⟨_, rfl, Kd.R_nil _ _ _ _ _, HB.out⟩
                      · have bL : decide ((16383 : Int) ≤ (l.length : Int)) = false := decide_eq_false eL
                        have bL2 : decide (16383 ≤ l.length) = false := decide_eq_false (by omega)
                        rw [if_neg (fun h => eL h.2), if_neg (by omega), if_neg e1] at H
                        by_cases d1 : x8 ≤ wrap64 (x8 + p2)
                        · rw [if_pos d1] at H
                          by_cases d2 : wrap64 (x8 + p2) ≤ (a0.size : Int)
                          · rw [if_pos d2] at H
                            by_cases d3 : l.length < 4398046511104
                            · rw [if_pos d3] at H
                              have LM := Aside0.mk d3
                              have H' := Aside0.mk H
                              have d1a := eq_true d1
                              have d2a := eq_true d2
                              have d1b : decide (x8 ≤ wrap64 (x8 + p2)) = true := decide_eq_true d1
                              have d2b : decide (wrap64 (x8 + p2) ≤ (a0.size : Int)) = true := decide_eq_true d2
                              clear H e1 e3 eL d1 d2 d3
                              go_wp2
                              have hsum : IntKind.i64.wrap (x8 + p2) = wrap64 (x8 + p2) := i64_w _
                              have hgl2 := heap_lt HG.out
                              have hgl3 : g < wc.heap.size := World.block_lt_of_cell? wc ⟨g, 0, none⟩ hc1
                              have hfr := Aside0.mk (show ∀ k, wc.drew.heap.size ≤ k → (k ≠ w2.heap.size ∧ k ≠ g) from fun k hk => ⟨Nat.ne_of_gt (Nat.lt_of_lt_of_le hgl2 hk), Nat.ne_of_gt (Nat.lt_of_lt_of_le hgl3 hk)⟩)
                              have hOd := Aside0.mk (Kd.R_drew HO.out)
                              have hBd := Aside0.mk (below_drew1 HB.out)
                              have hLd := Aside0.mk (show (l.length + 1) * 32 ≤ 140737488355328 by have := LM.out; omega)
                              have hown := Aside0.mk HO.out.1
                              go_region_law ((refine Kd.R_append_step k40 (w0 := w) (W := wc.drew) w.heap.size rfl (.tmp 71) (.tmp 83) 36 40 (.agg #[(.int .i64 0), (.int .i64 0), (.string ⟨#[]⟩)]) 32 rfl Tryd.underlying36 info40 rfl (by decide) (by decide) (.slice Ao l.length co) l (⟨p1, x8, a0.extract x8.toNat (wrap64 (x8 + p2)).toNat⟩ : S40) [.int .i64 p1, .int .i64 x8, .string (a0.extract x8.toNat (wrap64 (x8 + p2)).toNat)] (fun b => b ≠ w2.heap.size ∧ b ≠ g) (fun _ => False) (by simp [Act.eval, Act.put]) (by simp [Act.eval, Act.put]) (k40_mkM _ _ _ (⟨p1, x8, a0.extract x8.toNat (wrap64 (x8 + p2)).toNat⟩ : S40)) (fun _ hk => hk.elim) hfr.out hOd.out hBd.out hBd.out.size hLd.out ?_; intro v148 w9 ho hb hg hat; have HO9 := Aside0.mk ho; have HB9 := Aside0.mk hb; have hn2 := Aside0.mk (show some w2.heap.size ≠ (Value.slice Ao l.length co).ownBlock from fun h => (hown.out _ h.symm).1 rfl); have hn3 := Aside0.mk (show some g ≠ (Value.slice Ao l.length co).ownBlock from fun h => (hown.out _ h.symm).2 rfl); have HG9 := Aside0.mk ((hg.block _ hgl2 hn2.out).trans HG.out); have hq2 : w9.cell? ⟨g, 1, none⟩ = some (.int .i64 p2) := (grown_cell hg hgl3 hn3.out 1).trans hc2; clear ho hb hg hat))
                              all_goals clear hsum
                              all_goals go_wp2
                              all_goals go_roundg k1
                              all_goals first | (have := HK1.out; omega) | exact ⟨_, _, rfl, H', ⟨by have := HK1.out; omega⟩, ⟨Kd.R_mono HO9.out (fun _ h => h.1)⟩, HG9, HB9⟩
                            · rw [if_neg d3] at H
                              cases H
                          · rw [if_neg d2] at H
                            cases H
                        · rw [if_neg d1] at H
                          cases H
                  · have b3 : (p3 == 0) = false := beq_eq_false_iff_ne.mpr e3
                    have b3n : (p3 != 0) = true := bne_iff_ne.mpr e3
                    by_cases e43 : p3 = 43
                    · have b43 : (p3 == 43) = true := beq_iff_eq.mpr e43
                      rw [if_neg (by omega), if_pos e3] at H
                      simp only [Option.some.injEq, Prod.mk.injEq] at H
                      obtain ⟨rfl, rfl, rfl⟩ := H
                      clear e3 e43
                      by_cases e1 : p1 = 0
                      · have b1 : (p1 == 0) = true := beq_iff_eq.mpr e1
                        clear e1
                        go_wp2
                        go_quiet (fail)
                        go_wp2
                        rw [Exit.noGoto_ret]
                        go_ret3
                        exact ⟨_, rfl, Kd.R_nil _ _ _ _ _, by repeat (first | (with_reducible first | exact HB.out | apply below_alloc | apply pw_below_drewN | apply below_drew1) | exact HB.out)⟩
                      · have b1 : (p1 == 0) = false := beq_eq_false_iff_ne.mpr e1
                        clear e1
                        go_wp2
                        go_quiet (fail)
                        go_wp2
                        rw [Exit.noGoto_ret]
                        go_ret3
                        exact ⟨_, rfl, Kd.R_nil _ _ _ _ _, by repeat (first | (with_reducible first | exact HB.out | apply below_alloc | apply pw_below_drewN | apply below_drew1) | exact HB.out)⟩
                    · have b43 : (p3 == 43) = false := beq_eq_false_iff_ne.mpr e43
                      by_cases eL : (l.length : Int) ≥ 16383
                      · have bL : decide ((16383 : Int) ≤ (l.length : Int)) = true := decide_eq_true eL
                        have bL2 : decide (16383 ≤ l.length) = true := decide_eq_true (by omega)
                        rw [if_pos (by omega)] at H
                        simp only [Option.some.injEq, Prod.mk.injEq] at H
                        obtain ⟨rfl, rfl, rfl⟩ := H
                        by_cases e1 : p1 = 0
                        · have b1 : (p1 == 0) = true := beq_iff_eq.mpr e1
                          clear e1 e3 e43 eL
                          go_wp2
                          rw [Exit.noGoto_ret]
                          go_ret3
                          exact ⟨_, rfl, Kd.R_nil _ _ _ _ _, HB.out⟩
                        · have b1 : (p1 == 0) = false := beq_eq_false_iff_ne.mpr e1
                          clear e1 e3 e43 eL
                          go_wp2
                          rw [Exit.noGoto_ret]
                          go_ret3
                          exact ⟨_, rfl, Kd.R_nil _ _ _ _ _, HB.out⟩
                      · have bL : decide ((16383 : Int) ≤ (l.length : Int)) = false := decide_eq_false eL
                        have bL2 : decide (16383 ≤ l.length) = false := decide_eq_false (by omega)
                        rw [if_neg (fun h => eL h.2), if_pos e3] at H
                        simp only [Option.some.injEq, Prod.mk.injEq] at H
                        obtain ⟨rfl, rfl, rfl⟩ := H
                        by_cases e1 : p1 = 0
                        · have b1 : (p1 == 0) = true := beq_iff_eq.mpr e1
                          clear e1 e3 e43 eL
                          go_wp2
                          go_quiet (fail)
                          go_wp2
                          rw [Exit.noGoto_ret]
                          go_ret3
                          exact ⟨_, rfl, Kd.R_nil _ _ _ _ _, by repeat (first | (with_reducible first | exact HB.out | apply below_alloc | apply pw_below_drewN | apply below_drew1) | exact HB.out)⟩
                        · have b1 : (p1 == 0) = false := beq_eq_false_iff_ne.mpr e1
                          clear e1 e3 e43 eL
                          go_wp2
                          go_quiet (fail)
                          go_wp2
                          rw [Exit.noGoto_ret]
                          go_ret3
                          exact ⟨_, rfl, Kd.R_nil _ _ _ _ _, by repeat (first | (with_reducible first | exact HB.out | apply below_alloc | apply pw_below_drewN | apply below_drew1) | exact HB.out)⟩
              · rw [if_neg c7] at H
                cases H
            · rw [if_neg c6] at H
              cases H
theorem scan_disp_mono (c : Int) (t : ByteArray) (k : Nat) : LeO (scan_disp k c t) (scan_disp (k + 1) c t) := by
  unfold scan_disp
  repeat' first
  | (with_reducible exact scan_row.mono _ _)
  | (with_reducible exact scan_number.mono _ _)
  | (with_reducible exact scan_str.mono _ _)
  | (with_reducible exact LeO.refl _)
  | (with_reducible refine LeO.ite ?_ ?_)
  | (with_reducible refine LeO.bind ?_ (fun _ => ?_))
theorem scan_Tokens.mono_l : ∀ k, (∀ y0 y1 y2, LeO (scan_Tokens.l0 k y0 y1 y2) (scan_Tokens.l0 (k + 1) y0 y1 y2))
  | 0 => fun _ _ _ r h => by simp [scan_Tokens.l0] at h
  | k + 1 => by
    have ih0 := scan_Tokens.mono_l k
    intro y0 y1 y2
    unfold scan_Tokens.l0
    repeat' first
    | (with_reducible exact ih0 _ _ _)
    | (with_reducible exact scan_class.mono _ _)
    | (with_reducible exact scan_disp_mono _ _ _)
    | (with_reducible exact LeO.refl _)
    | (with_reducible refine LeO.ite ?_ ?_)
    | (with_reducible refine LeO.bind ?_ (fun _ => ?_))
theorem scan_Tokens.mono : ∀ a0 k, LeO (scan_Tokens.f k a0) (scan_Tokens.f (k + 1) a0) := by
  intro a0 k
  have ih0 := scan_Tokens.mono_l k
  unfold scan_Tokens.f
  repeat' first
  | (with_reducible exact ih0 _ _ _)
  | (with_reducible exact wire_Utf8.mono _ _)
  | (with_reducible exact LeO.refl _)
  | (with_reducible refine LeO.ite ?_ ?_)
  | (with_reducible refine LeO.bind ?_ (fun _ => ?_))

/-! ### sigillaw4_head: function 19 -/
def sigillaw4_head.f (k : Nat)  : Option (Bool) := (scan_Tokens.f k (⟨#[97, 61, 49]⟩ : ByteArray)).bind fun bt165 => (if bt165.2.2 = 0 then (if bt165.2.1 = 0 then (if (bt165.1.length : Int) = 4 then (if 0 < (bt165.1.length : Int) then (if (((rd_T40 bt165.1 0).f0) == 1 && (((rd_T40 bt165.1 0).f1) == 0 && ((((rd_T40 bt165.1 0).f2).toList) == ([97] : List UInt8)))) = true then (if 3 < (bt165.1.length : Int) then (some (((rd_T40 bt165.1 3).f0) == 5 && (((rd_T40 bt165.1 3).f1) == 3 && ((((rd_T40 bt165.1 3).f2).toList) == ([] : List UInt8))))) else (none)) else (some false)) else (none)) else (some false)) else (some false)) else (some false))
theorem sigillaw4_head.mono : ∀ k, LeO (sigillaw4_head.f k ) (sigillaw4_head.f (k + 1) ) := by
  intro  k
  unfold sigillaw4_head.f
  repeat' first
      | (with_reducible exact scan_Tokens.mono _ _)
      | (with_reducible exact LeO.refl _)
      | (with_reducible exact LeO.none _)
      | (with_reducible refine LeO.ite ?_ ?_)
      | (with_reducible refine LeO.bind ?_ (fun _ => ?_))
      | exact scan_Tokens.mono _ _
      | exact LeO.none _
      | refine LeO.ite ?_ ?_
      | refine LeO.bind ?_ (fun _ => ?_)
set_option maxHeartbeats 8000000 in
set_option maxRecDepth 100000 in
theorem sigillaw4_head.calls (k : Nat)  (r : Bool) (w : World) (h : sigillaw4_head.f k  = some r) (hL : LaidW w) :
    Calls Tryd.prog 19 #[] w fun e w' => e = .returned (.bool r) ∧ Below w.heap.size w w' := by
  have HL := Aside0.mk hL
  clear hL
  have hu40 := Tryd.underlying40
  have HB := Aside0.mk (Below.refl w.heap.size w)
  have H : ((scan_Tokens.f k (⟨#[97, 61, 49]⟩ : ByteArray)).bind fun bt165 => (if bt165.2.2 = 0 then (if bt165.2.1 = 0 then (if (bt165.1.length : Int) = 4 then (if 0 < (bt165.1.length : Int) then (if (((rd_T40 bt165.1 0).f0) == 1 && (((rd_T40 bt165.1 0).f1) == 0 && ((((rd_T40 bt165.1 0).f2).toList) == ([97] : List UInt8)))) = true then (if 3 < (bt165.1.length : Int) then (some (((rd_T40 bt165.1 3).f0) == 5 && (((rd_T40 bt165.1 3).f1) == 3 && ((((rd_T40 bt165.1 3).f2).toList) == ([] : List UInt8))))) else (none)) else (some false)) else (none)) else (some false)) else (some false)) else (some false))) = some r := h
  clear h
  replace H := Option.bind_eq_some_iff.mp H
  obtain ⟨⟨t165, t166, t167⟩, A10, H⟩ := H
  replace H : (if t167 = 0 then (if t166 = 0 then (if (t165.length : Int) = 4 then (if 0 < (t165.length : Int) then (if (((rd_T40 t165 0).f0) == 1 && (((rd_T40 t165 0).f1) == 0 && ((((rd_T40 t165 0).f2).toList) == ([97] : List UInt8)))) = true then (if 3 < (t165.length : Int) then (some (((rd_T40 t165 3).f0) == 5 && (((rd_T40 t165 3).f1) == 3 && ((((rd_T40 t165 3).f2).toList) == ([] : List UInt8))))) else (none)) else (some false)) else (none)) else (some false)) else (some false)) else (some false)) = some r := H
  have A1 := Aside0.mk A10
  clear A10
  by_cases c2 : t167 = 0
  · rw [if_pos c2] at H
    have c2b0 : (t167 == 0) = true := beq_iff_eq.mpr c2
    have c2b1 : (t167 != 0) = false := bne_eq_false_iff_eq.mpr c2
    clear c2
    by_cases c3 : t166 = 0
    · rw [if_pos c3] at H
      have c3b0 : (t166 == 0) = true := beq_iff_eq.mpr c3
      have c3b1 : (t166 != 0) = false := bne_eq_false_iff_eq.mpr c3
      clear c3
      by_cases c4 : (t165.length : Int) = 4
      · rw [if_pos c4] at H
        have c4b0 : ((t165.length : Int) == 4) = true := beq_iff_eq.mpr c4
        have c4b1 : ((t165.length : Int) != 4) = false := bne_eq_false_iff_eq.mpr c4
        clear c4
        by_cases c5 : 0 < (t165.length : Int)
        · rw [if_pos c5] at H
          have c5b0 : decide (0 < (t165.length : Int)) = true := decide_eq_true c5
          have c5b1 : decide (0 < t165.length) = true := decide_eq_true (by omega)
          clear c5
          by_cases c6 : (((rd_T40 t165 0).f0) == 1 && (((rd_T40 t165 0).f1) == 0 && ((((rd_T40 t165 0).f2).toList) == ([97] : List UInt8)))) = true
          · rw [if_pos c6] at H
            have c6b0 : (((rd_T40 t165 0).f0) == 1 && (((rd_T40 t165 0).f1) == 0 && ((((rd_T40 t165 0).f2).toList) == ([97] : List UInt8)))) = true := c6
            (try (have c6b1 : decide (((rd_T40 t165 0).f0) = 1 && (((rd_T40 t165 0).f1) == 0 && ((((rd_T40 t165 0).f2).toList) == ([97] : List UInt8)))) = true := by simpa using c6))
            (try (have c6b2 : (((rd_T40 t165 0).f0) == 1 && (((rd_T40 t165 0).f1) == 0 && ((((rd_T40 t165 0).f2).toList) == ([97] : List UInt8)))) = true := by simpa using c6))
            clear c6
            by_cases c7 : 3 < (t165.length : Int)
            · rw [if_pos c7] at H
              have c7b0 : decide (3 < (t165.length : Int)) = true := decide_eq_true c7
              have c7b1 : decide (3 < t165.length) = true := decide_eq_true (by omega)
              clear c7
              obtain rfl := Option.some.inj H
              go_enter Tryd.func19, Tryd.ntmps19
              go_wp2_with (first | ((with_reducible refine gate_callee (f := 21) rfl ?_); refine goesL_ (some 5) rfl rfl Tryd.func21 (by kernel_rfl) rfl #[.string (⟨#[97, 61, 49]⟩ : ByteArray)] rfl (by (try simp only [List.map_toArray, List.map_cons, List.map_nil]); first | done | rfl | (simp only [List.length_drop, List.length_take]; rfl)) ?_; (with_reducible refine (scan_Tokens.calls k (⟨#[97, 61, 49]⟩ : ByteArray) t165 t166 t167 _ A1.out (LaidW.below HL.out (by repeat (first | (with_reducible first | exact HB.out | apply below_alloc | apply pw_below_drewN | apply below_drew1) | exact HB.out | exact Below.refl _ _)))).mono ?_); rintro e w8 ⟨v168, rfl, ho0, hb⟩; refine ⟨_, rfl, ?_⟩; have n0_ := Aside0.mk (Kd.R_lower ho0 (below_size (by repeat (first | (with_reducible first | exact HB.out | apply below_alloc | apply pw_below_drewN | apply below_drew1) | exact HB.out)))); have n1_ := Aside0.mk (below_step (by repeat (first | (with_reducible first | exact HB.out | apply below_alloc | apply pw_below_drewN | apply below_drew1) | exact HB.out)) hb); clear HB; have HO169 := n0_; have HB := n1_; clear n0_ n1_; (try clear hb); (try clear hb2); (try clear hk); (try clear hi); (try clear ho0); obtain ⟨Ao9, co9, eo9⟩ := Kd.R_slice HO169.out; subst eo9; have p170 : 0 ≤ (0 : Int) := (by omega); have q170 : 0 < (t165.length : Int) := of_decide_eq_true (by first | (with_reducible assumption) | assumption); obtain ⟨ad170, e170, hx170_0, hx170_1, hx170_2⟩ := at_T40 (Kd.R_reads' HO169.out).2.2 0 p170 q170; cases e170; have qi170 : (0 < t165.length) = True := eq_true (by omega); (try rw [show ((0 : Int)).toNat = 0 from rfl] at hx170_0); (try rw [show 0 * 3 = 0 from rfl] at hx170_0); (try rw [Addr.add_zero'] at hx170_0); (try rw [show ((0 : Int)).toNat = 0 from rfl] at hx170_1); (try rw [show 0 * 3 = 0 from rfl] at hx170_1); (try rw [Addr.add_zero'] at hx170_1); (try rw [show ((0 : Int)).toNat = 0 from rfl] at hx170_2); (try rw [show 0 * 3 = 0 from rfl] at hx170_2); (try rw [Addr.add_zero'] at hx170_2); replace p170 := eq_true p170; replace q170 := eq_true q170; have p171 : 0 ≤ (3 : Int) := (by omega); have q171 : 3 < (t165.length : Int) := of_decide_eq_true (by first | (with_reducible assumption) | assumption); obtain ⟨ad171, e171, hx171_0, hx171_1, hx171_2⟩ := at_T40 (Kd.R_reads' HO169.out).2.2 3 p171 q171; obtain rfl : ad170 = ad171 := (by injection e171); (try simp only [show (3 : Int).toNat = 3 from rfl, Nat.reduceMul, Nat.reduceEqDiff, Go.Addr.add, ↓reduceIte] at hx171_0); (try simp only [show (3 : Int).toNat = 3 from rfl, Nat.reduceMul, Nat.reduceEqDiff, Go.Addr.add, ↓reduceIte] at hx171_1); (try simp only [show (3 : Int).toNat = 3 from rfl, Nat.reduceMul, Nat.reduceEqDiff, Go.Addr.add, ↓reduceIte] at hx171_2); have qi171 : (3 < t165.length) = True := eq_true (by omega); (try rw [show ((3 : Int)).toNat = 3 from rfl] at hx171_0); (try rw [show 3 * 3 = 9 from rfl] at hx171_0); (try rw [show ((3 : Int)).toNat = 3 from rfl] at hx171_1); (try rw [show 3 * 3 = 9 from rfl] at hx171_1); (try rw [show ((3 : Int)).toNat = 3 from rfl] at hx171_2); (try rw [show 3 * 3 = 9 from rfl] at hx171_2); replace p171 := eq_true p171; replace q171 := eq_true q171))
              go_ret
              exact ⟨by first | rfl | (simp [errW_none, errW_some] <;> rfl) | (simp [*, errW_none, errW_some] <;> rfl), by repeat (first | (with_reducible first | exact HB.out | apply below_alloc | apply pw_below_drewN | apply below_drew1) | exact HB.out)⟩
            · rw [if_neg c7] at H
              exact absurd H (by simp)
          · rw [if_neg c6] at H
            have c6b0 : (((rd_T40 t165 0).f0) == 1 && (((rd_T40 t165 0).f1) == 0 && ((((rd_T40 t165 0).f2).toList) == ([97] : List UInt8)))) = false := by simpa using c6
            (try (have c6b1 : decide (((rd_T40 t165 0).f0) = 1 && (((rd_T40 t165 0).f1) == 0 && ((((rd_T40 t165 0).f2).toList) == ([97] : List UInt8)))) = false := by simpa using c6))
            (try (have c6b2 : (((rd_T40 t165 0).f0) == 1 && (((rd_T40 t165 0).f1) == 0 && ((((rd_T40 t165 0).f2).toList) == ([97] : List UInt8)))) = false := by simpa using c6))
            (try (have c6b3 : ¬ (((rd_T40 t165 0).f0) = 1 && (((rd_T40 t165 0).f1) == 0 && ((((rd_T40 t165 0).f2).toList) == ([97] : List UInt8)))) := by simpa using c6))
            clear c6
            obtain rfl := Option.some.inj H
            go_enter Tryd.func19, Tryd.ntmps19
            go_wp2_with (first | ((with_reducible refine gate_callee (f := 21) rfl ?_); refine goesL_ (some 5) rfl rfl Tryd.func21 (by kernel_rfl) rfl #[.string (⟨#[97, 61, 49]⟩ : ByteArray)] rfl (by (try simp only [List.map_toArray, List.map_cons, List.map_nil]); first | done | rfl | (simp only [List.length_drop, List.length_take]; rfl)) ?_; (with_reducible refine (scan_Tokens.calls k (⟨#[97, 61, 49]⟩ : ByteArray) t165 t166 t167 _ A1.out (LaidW.below HL.out (by repeat (first | (with_reducible first | exact HB.out | apply below_alloc | apply pw_below_drewN | apply below_drew1) | exact HB.out | exact Below.refl _ _)))).mono ?_); rintro e w10 ⟨v168, rfl, ho0, hb⟩; refine ⟨_, rfl, ?_⟩; have n0_ := Aside0.mk (Kd.R_lower ho0 (below_size (by repeat (first | (with_reducible first | exact HB.out | apply below_alloc | apply pw_below_drewN | apply below_drew1) | exact HB.out)))); have n1_ := Aside0.mk (below_step (by repeat (first | (with_reducible first | exact HB.out | apply below_alloc | apply pw_below_drewN | apply below_drew1) | exact HB.out)) hb); clear HB; have HO169 := n0_; have HB := n1_; clear n0_ n1_; (try clear hb); (try clear hb2); (try clear hk); (try clear hi); (try clear ho0); obtain ⟨Ao11, co11, eo11⟩ := Kd.R_slice HO169.out; subst eo11; have p170 : 0 ≤ (0 : Int) := (by omega); have q170 : 0 < (t165.length : Int) := of_decide_eq_true (by first | (with_reducible assumption) | assumption); obtain ⟨ad170, e170, hx170_0, hx170_1, hx170_2⟩ := at_T40 (Kd.R_reads' HO169.out).2.2 0 p170 q170; cases e170; have qi170 : (0 < t165.length) = True := eq_true (by omega); (try rw [show ((0 : Int)).toNat = 0 from rfl] at hx170_0); (try rw [show 0 * 3 = 0 from rfl] at hx170_0); (try rw [Addr.add_zero'] at hx170_0); (try rw [show ((0 : Int)).toNat = 0 from rfl] at hx170_1); (try rw [show 0 * 3 = 0 from rfl] at hx170_1); (try rw [Addr.add_zero'] at hx170_1); (try rw [show ((0 : Int)).toNat = 0 from rfl] at hx170_2); (try rw [show 0 * 3 = 0 from rfl] at hx170_2); (try rw [Addr.add_zero'] at hx170_2); replace p170 := eq_true p170; replace q170 := eq_true q170))
            go_ret
            exact ⟨by first | rfl | (simp [errW_none, errW_some] <;> rfl) | (simp [*, errW_none, errW_some] <;> rfl), by repeat (first | (with_reducible first | exact HB.out | apply below_alloc | apply pw_below_drewN | apply below_drew1) | exact HB.out)⟩
        · rw [if_neg c5] at H
          exact absurd H (by simp)
      · rw [if_neg c4] at H
        have c4b0 : ((t165.length : Int) == 4) = false := beq_eq_false_iff_ne.mpr c4
        have c4b1 : ((t165.length : Int) != 4) = true := bne_iff_ne.mpr c4
        obtain rfl := Option.some.inj H
        go_enter Tryd.func19, Tryd.ntmps19
        go_wp2_with (first | ((with_reducible refine gate_callee (f := 21) rfl ?_); refine goesL_ (some 5) rfl rfl Tryd.func21 (by kernel_rfl) rfl #[.string (⟨#[97, 61, 49]⟩ : ByteArray)] rfl (by (try simp only [List.map_toArray, List.map_cons, List.map_nil]); first | done | rfl | (simp only [List.length_drop, List.length_take]; rfl)) ?_; (with_reducible refine (scan_Tokens.calls k (⟨#[97, 61, 49]⟩ : ByteArray) t165 t166 t167 _ A1.out (LaidW.below HL.out (by repeat (first | (with_reducible first | exact HB.out | apply below_alloc | apply pw_below_drewN | apply below_drew1) | exact HB.out | exact Below.refl _ _)))).mono ?_); rintro e w12 ⟨v168, rfl, ho0, hb⟩; refine ⟨_, rfl, ?_⟩; have n0_ := Aside0.mk (Kd.R_lower ho0 (below_size (by repeat (first | (with_reducible first | exact HB.out | apply below_alloc | apply pw_below_drewN | apply below_drew1) | exact HB.out)))); have n1_ := Aside0.mk (below_step (by repeat (first | (with_reducible first | exact HB.out | apply below_alloc | apply pw_below_drewN | apply below_drew1) | exact HB.out)) hb); clear HB; have HO169 := n0_; have HB := n1_; clear n0_ n1_; (try clear hb); (try clear hb2); (try clear hk); (try clear hi); (try clear ho0); obtain ⟨Ao13, co13, eo13⟩ := Kd.R_slice HO169.out; subst eo13))
        go_ret
        exact ⟨by first | rfl | (simp [errW_none, errW_some] <;> rfl) | (simp [*, errW_none, errW_some] <;> rfl), by repeat (first | (with_reducible first | exact HB.out | apply below_alloc | apply pw_below_drewN | apply below_drew1) | exact HB.out)⟩
    · rw [if_neg c3] at H
      have c3b0 : (t166 == 0) = false := beq_eq_false_iff_ne.mpr c3
      have c3b1 : (t166 != 0) = true := bne_iff_ne.mpr c3
      obtain rfl := Option.some.inj H
      go_enter Tryd.func19, Tryd.ntmps19
      go_wp2_with (first | ((with_reducible refine gate_callee (f := 21) rfl ?_); refine goesL_ (some 5) rfl rfl Tryd.func21 (by kernel_rfl) rfl #[.string (⟨#[97, 61, 49]⟩ : ByteArray)] rfl (by (try simp only [List.map_toArray, List.map_cons, List.map_nil]); first | done | rfl | (simp only [List.length_drop, List.length_take]; rfl)) ?_; (with_reducible refine (scan_Tokens.calls k (⟨#[97, 61, 49]⟩ : ByteArray) t165 t166 t167 _ A1.out (LaidW.below HL.out (by repeat (first | (with_reducible first | exact HB.out | apply below_alloc | apply pw_below_drewN | apply below_drew1) | exact HB.out | exact Below.refl _ _)))).mono ?_); rintro e w14 ⟨v168, rfl, ho0, hb⟩; refine ⟨_, rfl, ?_⟩; have n0_ := Aside0.mk (Kd.R_lower ho0 (below_size (by repeat (first | (with_reducible first | exact HB.out | apply below_alloc | apply pw_below_drewN | apply below_drew1) | exact HB.out)))); have n1_ := Aside0.mk (below_step (by repeat (first | (with_reducible first | exact HB.out | apply below_alloc | apply pw_below_drewN | apply below_drew1) | exact HB.out)) hb); clear HB; have HO169 := n0_; have HB := n1_; clear n0_ n1_; (try clear hb); (try clear hb2); (try clear hk); (try clear hi); (try clear ho0)))
      go_ret
      exact ⟨by first | rfl | (simp [errW_none, errW_some] <;> rfl) | (simp [*, errW_none, errW_some] <;> rfl), by repeat (first | (with_reducible first | exact HB.out | apply below_alloc | apply pw_below_drewN | apply below_drew1) | exact HB.out)⟩
  · rw [if_neg c2] at H
    have c2b0 : (t167 == 0) = false := beq_eq_false_iff_ne.mpr c2
    have c2b1 : (t167 != 0) = true := bne_iff_ne.mpr c2
    obtain rfl := Option.some.inj H
    go_enter Tryd.func19, Tryd.ntmps19
    go_wp2_with (first | ((with_reducible refine gate_callee (f := 21) rfl ?_); refine goesL_ (some 5) rfl rfl Tryd.func21 (by kernel_rfl) rfl #[.string (⟨#[97, 61, 49]⟩ : ByteArray)] rfl (by (try simp only [List.map_toArray, List.map_cons, List.map_nil]); first | done | rfl | (simp only [List.length_drop, List.length_take]; rfl)) ?_; (with_reducible refine (scan_Tokens.calls k (⟨#[97, 61, 49]⟩ : ByteArray) t165 t166 t167 _ A1.out (LaidW.below HL.out (by repeat (first | (with_reducible first | exact HB.out | apply below_alloc | apply pw_below_drewN | apply below_drew1) | exact HB.out | exact Below.refl _ _)))).mono ?_); rintro e w15 ⟨v168, rfl, ho0, hb⟩; refine ⟨_, rfl, ?_⟩; have n0_ := Aside0.mk (Kd.R_lower ho0 (below_size (by repeat (first | (with_reducible first | exact HB.out | apply below_alloc | apply pw_below_drewN | apply below_drew1) | exact HB.out)))); have n1_ := Aside0.mk (below_step (by repeat (first | (with_reducible first | exact HB.out | apply below_alloc | apply pw_below_drewN | apply below_drew1) | exact HB.out)) hb); clear HB; have HO169 := n0_; have HB := n1_; clear n0_ n1_; (try clear hb); (try clear hb2); (try clear hk); (try clear hi); (try clear ho0)))
    go_ret
    exact ⟨by first | rfl | (simp [errW_none, errW_some] <;> rfl) | (simp [*, errW_none, errW_some] <;> rfl), by repeat (first | (with_reducible first | exact HB.out | apply below_alloc | apply pw_below_drewN | apply below_drew1) | exact HB.out)⟩

/-! ### sigillaw4_SameTokens: function 24 -/
def sigillaw4_SameTokens.l0 : Nat → List (S40) → List (S40) → Int → Option (Bool)
  | 0, _, _, _ => none
  | k + 1, x0, x1, x5 => if x5 < (x0.length : Int) then (if 0 ≤ x5 then (if x5 < (x1.length : Int) then (if (!(((rd_T40 x0 x5).f0) == ((rd_T40 x1 x5).f0)) || (!(((rd_T40 x0 x5).f1) == ((rd_T40 x1 x5).f1)) || (!((((rd_T40 x0 x5).f2).toList) == (((rd_T40 x1 x5).f2).toList))))) = true then (some false) else (sigillaw4_SameTokens.l0 k x0 x1 (wrap64 (x5 + 1)))) else (none)) else (none)) else (some true)
def sigillaw4_SameTokens.f (k : Nat) (l0 : List (S40)) (l1 : List (S40)) : Option (Bool) := if (l0.length : Int) = (l1.length : Int) then (sigillaw4_SameTokens.l0 k l0 l1 0) else (some false)
theorem sigillaw4_SameTokens.mono_l : ∀ k, (∀ y0 y1 y2, LeO (sigillaw4_SameTokens.l0 k y0 y1 y2) (sigillaw4_SameTokens.l0 (k + 1) y0 y1 y2))
  | 0 => fun _ _ _ r h => by simp [sigillaw4_SameTokens.l0] at h
  | k + 1 => by
    have ih0 := sigillaw4_SameTokens.mono_l k
    · intro y0 y1 y2
      unfold sigillaw4_SameTokens.l0
      repeat' first
      | (with_reducible exact ih0 _ _ _)
      | (with_reducible exact LeO.refl _)
      | (with_reducible exact LeO.none _)
      | (with_reducible refine LeO.ite ?_ ?_)
      | (with_reducible refine LeO.bind ?_ (fun _ => ?_))
      | exact ih0 _ _ _
      | exact LeO.none _
      | refine LeO.ite ?_ ?_
      | refine LeO.bind ?_ (fun _ => ?_)
theorem sigillaw4_SameTokens.mono : ∀ a0 a1 k, LeO (sigillaw4_SameTokens.f k a0 a1) (sigillaw4_SameTokens.f (k + 1) a0 a1) := by
  intro a0 a1 k
  have ih0 := sigillaw4_SameTokens.mono_l k
  unfold sigillaw4_SameTokens.f
  repeat' first
      | (with_reducible exact ih0 _ _ _)
      | (with_reducible exact LeO.refl _)
      | (with_reducible exact LeO.none _)
      | (with_reducible refine LeO.ite ?_ ?_)
      | (with_reducible refine LeO.bind ?_ (fun _ => ?_))
      | exact ih0 _ _ _
      | exact LeO.none _
      | refine LeO.ite ?_ ?_
      | refine LeO.bind ?_ (fun _ => ?_)
/-! ### sigilref4_blank: function 76 -/
def sigilref4_blank.f (a0 : Int) : Option (Bool) := if a0 ≥ 9 then (if a0 ≤ 13 then (some true) else (some (a0 == 32))) else (some (a0 == 32))

end Go.Proofs.YtabgnbbljjohdaaRDoor.A
