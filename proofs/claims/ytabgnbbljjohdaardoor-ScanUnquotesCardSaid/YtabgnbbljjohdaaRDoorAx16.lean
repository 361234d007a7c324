-- THIS SESSION'S TEXT: written by plugprint.py out of the translation, with contracts proved by hand.
import Derived.Test.YtabgnbbljjohdaaRDoorAx0
import Derived.Test.YtabgnbbljjohdaaRDoorAx8
import Derived.Test.YtabgnbbljjohdaaRDoorAx10
import Derived.Test.YtabgnbbljjohdaaRDoorAx14
import Derived.Test.YtabgnbbljjohdaaRDoorAx15
namespace Go.Proofs.YtabgnbbljjohdaaRDoor.A
open Go.RowKit Go.Proofs.YtabgnbbljjohdaaRDoorW.PrintWords Go.Proofs.YtabgnbbljjohdaaRDoorW.PrintLast Go.Proofs.YtabgnbbljjohdaaRDoorW.PrintMore
attribute [local go_sem] max2_int min2_int max_two min_two max_three min_three max_four min_four   -- for this text's walks alone
set_option linter.unusedVariables false
set_option linter.unusedSimpArgs false

/-! ### sigilref4_one: function 56 -/
mutual
def sigilref4_one.j1 : Nat → ByteArray → Int → Int → Int → Option (Int × Int × Int)
  | 0, _, _, _, _ => none
  | k + 1, x0, x1, x7, x8 => (sigilref4_letter.f x7).bind fun t172 => (if t172 = true then (some (1, x8, 0)) else ((sigilref4_digit.f x7 10).bind fun t173 => (if t173 = true then (if 0 ≤ x1 then (if x1 ≤ x8 then (if x8 ≤ (x0.size : Int) then ((sigilref4_Digits.f k (x0.extract (x1 : Int).toNat (x8 : Int).toNat)).bind fun bt174 => (if bt174.2 = true then (some (2, x8, 0)) else (some (0, 0, 41)))) else (none)) else (none)) else (none)) else (if x7 = 34 then (sigilref4_one.j2 k x0 x1 x7 true) else (sigilref4_one.j2 k x0 x1 x7 (x7 == 39))))))
def sigilref4_one.j2 : Nat → ByteArray → Int → Int → Bool → Option (Int × Int × Int)
  | 0, _, _, _, _ => none
  | k + 1, x0, x1, x7, x53 => if x53 = true then ((sigilref4_quoted.f k x0 x1).bind fun bt176 => (if bt176.2 = 0 then (some (0, 0, 42)) else (some (3, bt176.2, 0)))) else ((sigilref4_sign.f k x7).bind fun t180 => (if t180 = true then (some (4, wrap64 (x1 + 1), 0)) else (some (0, 0, 40))))
def sigilref4_one.l0 : Nat → ByteArray → Int → Int → Int → Option (Int × Int × Int)
  | 0, _, _, _, _ => none
  | k + 1, x0, x1, x7, x8 => if x8 < (x0.size : Int) then (if 0 ≤ x8 then ((sigilref4_letter.f (bt x0 x8)).bind fun t170 => (if t170 = true then (sigilref4_one.l0 k x0 x1 x7 (wrap64 (x8 + 1))) else ((sigilref4_digit.f (bt x0 x8) 10).bind fun t171 => (if t171 = true then (sigilref4_one.l0 k x0 x1 x7 (wrap64 (x8 + 1))) else (sigilref4_one.j1 k x0 x1 x7 x8))))) else (none)) else (sigilref4_one.j1 k x0 x1 x7 x8)
end
def sigilref4_one.f (k : Nat) (a0 : ByteArray) (a1 : Int) : Option (Int × Int × Int) := if 0 ≤ a1 then (if a1 < (a0.size : Int) then (sigilref4_one.l0 k a0 a1 (bt a0 a1) a1) else (none)) else (none)
theorem sigilref4_one.mono_l : ∀ k, (∀ y0 y1 y2 y3, LeO (sigilref4_one.j1 k y0 y1 y2 y3) (sigilref4_one.j1 (k + 1) y0 y1 y2 y3)) ∧ (∀ y0 y1 y2 y3, LeO (sigilref4_one.j2 k y0 y1 y2 y3) (sigilref4_one.j2 (k + 1) y0 y1 y2 y3)) ∧ (∀ y0 y1 y2 y3, LeO (sigilref4_one.l0 k y0 y1 y2 y3) (sigilref4_one.l0 (k + 1) y0 y1 y2 y3))
  | 0 => ⟨fun _ _ _ _ r h => by simp [sigilref4_one.j1] at h, fun _ _ _ _ r h => by simp [sigilref4_one.j2] at h, fun _ _ _ _ r h => by simp [sigilref4_one.l0] at h⟩
  | k + 1 => by
    obtain ⟨ih0, ih1, ih2⟩ := sigilref4_one.mono_l k
    refine ⟨?_, ?_, ?_⟩
    · intro y0 y1 y2 y3
      unfold sigilref4_one.j1
      repeat' first
      | (with_reducible exact ih0 _ _ _ _)
      | (with_reducible exact ih1 _ _ _ _)
      | (with_reducible exact ih2 _ _ _ _)
      | (with_reducible exact sigilref4_Digits.mono _ _)
      | (with_reducible exact sigilref4_quoted.mono _ _ _)
      | (with_reducible exact sigilref4_sign.mono _ _)
      | (with_reducible exact LeO.refl _)
      | (with_reducible exact LeO.none _)
      | (with_reducible refine LeO.ite ?_ ?_)
      | (with_reducible refine LeO.bind ?_ (fun _ => ?_))
      | exact ih0 _ _ _ _
      | exact ih1 _ _ _ _
      | exact ih2 _ _ _ _
      | exact sigilref4_Digits.mono _ _
      | exact sigilref4_quoted.mono _ _ _
      | exact sigilref4_sign.mono _ _
      | exact LeO.none _
      | refine LeO.ite ?_ ?_
      | refine LeO.bind ?_ (fun _ => ?_)
    · intro y0 y1 y2 y3
      unfold sigilref4_one.j2
      repeat' first
      | (with_reducible exact ih0 _ _ _ _)
      | (with_reducible exact ih1 _ _ _ _)
      | (with_reducible exact ih2 _ _ _ _)
      | (with_reducible exact sigilref4_Digits.mono _ _)
      | (with_reducible exact sigilref4_quoted.mono _ _ _)
      | (with_reducible exact sigilref4_sign.mono _ _)
      | (with_reducible exact LeO.refl _)
      | (with_reducible exact LeO.none _)
      | (with_reducible refine LeO.ite ?_ ?_)
      | (with_reducible refine LeO.bind ?_ (fun _ => ?_))
      | exact ih0 _ _ _ _
      | exact ih1 _ _ _ _
      | exact ih2 _ _ _ _
      | exact sigilref4_Digits.mono _ _
      | exact sigilref4_quoted.mono _ _ _
      | exact sigilref4_sign.mono _ _
      | exact LeO.none _
      | refine LeO.ite ?_ ?_
      | refine LeO.bind ?_ (fun _ => ?_)
    · intro y0 y1 y2 y3
      unfold sigilref4_one.l0
      repeat' first
      | (with_reducible exact ih0 _ _ _ _)
      | (with_reducible exact ih1 _ _ _ _)
      | (with_reducible exact ih2 _ _ _ _)
      | (with_reducible exact sigilref4_Digits.mono _ _)
      | (with_reducible exact sigilref4_quoted.mono _ _ _)
      | (with_reducible exact sigilref4_sign.mono _ _)
      | (with_reducible exact LeO.refl _)
      | (with_reducible exact LeO.none _)
      | (with_reducible refine LeO.ite ?_ ?_)
      | (with_reducible refine LeO.bind ?_ (fun _ => ?_))
      | exact ih0 _ _ _ _
      | exact ih1 _ _ _ _
      | exact ih2 _ _ _ _
      | exact sigilref4_Digits.mono _ _
      | exact sigilref4_quoted.mono _ _ _
      | exact sigilref4_sign.mono _ _
      | exact LeO.none _
      | refine LeO.ite ?_ ?_
      | refine LeO.bind ?_ (fun _ => ?_)
theorem sigilref4_one.mono : ∀ a0 a1 k, LeO (sigilref4_one.f k a0 a1) (sigilref4_one.f (k + 1) a0 a1) := by
  intro a0 a1 k
  obtain ⟨ih0, ih1, ih2⟩ := sigilref4_one.mono_l k
  unfold sigilref4_one.f
  repeat' first
      | (with_reducible exact ih0 _ _ _ _)
      | (with_reducible exact ih1 _ _ _ _)
      | (with_reducible exact ih2 _ _ _ _)
      | (with_reducible exact sigilref4_Digits.mono _ _)
      | (with_reducible exact sigilref4_quoted.mono _ _ _)
      | (with_reducible exact sigilref4_sign.mono _ _)
      | (with_reducible exact LeO.refl _)
      | (with_reducible exact LeO.none _)
      | (with_reducible refine LeO.ite ?_ ?_)
      | (with_reducible refine LeO.bind ?_ (fun _ => ?_))
      | exact ih0 _ _ _ _
      | exact ih1 _ _ _ _
      | exact ih2 _ _ _ _
      | exact sigilref4_Digits.mono _ _
      | exact sigilref4_quoted.mono _ _ _
      | exact sigilref4_sign.mono _ _
      | exact LeO.none _
      | refine LeO.ite ?_ ?_
      | refine LeO.bind ?_ (fun _ => ?_)
set_option maxHeartbeats 8000000 in
set_option maxRecDepth 100000 in
theorem sigilref4_one.calls (k : Nat) (a0 : ByteArray) (a1 : Int) (r1 : Int) (r2 : Int) (r3 : Int) (w : World) (h : sigilref4_one.f k a0 a1 = some (r1, r2, r3)) :
    Calls Tryd.prog 56 #[.string a0, .int .i64 a1] w fun e w' => e = .returned (.tuple #[.int .i64 r1, .int .i64 r2, .int .i64 r3]) ∧ Below w.heap.size w w' := by
  have HB := Aside0.mk (Below.refl w.heap.size w)
  have H : (if 0 ≤ a1 then (if a1 < (a0.size : Int) then (sigilref4_one.l0 k a0 a1 (bt a0 a1) a1) else (none)) else (none)) = some (r1, r2, r3) := h
  clear h
  by_cases c3 : 0 ≤ a1
  · rw [if_pos c3] at H
    have c3b0 : decide (0 ≤ a1) = true := decide_eq_true c3
    clear c3
    by_cases c4 : a1 < (a0.size : Int)
    · rw [if_pos c4] at H
      have c4b0 : decide (a1 < (a0.size : Int)) = true := decide_eq_true c4
      clear c4
      have HC6 := Aside0.mk H
      clear H
      have p5 : 0 ≤ (a1 : Int) := of_decide_eq_true (by first | (with_reducible assumption) | assumption)
      have q5 : a1 < (a0.size : Int) := of_decide_eq_true (by first | (with_reducible assumption) | assumption)
      have hx5 := bt_at a0 a1
      replace p5 := eq_true p5
      replace q5 := eq_true q5
      go_enter Tryd.func56, Tryd.ntmps56
      go_upto_block 0 with (fail)
      go_cut [8] (fun v8 wc => ∃ (kq : Nat) (x8_5 : Int), v8 = .int .i64 x8_5 ∧ Aside0 (sigilref4_one.j1 kq a0 a1 (bt a0 a1) x8_5 = some (r1, r2, r3)) ∧ Aside0 (kq ≤ k) ∧ Aside0 (Below w.heap.size w wc))
      case first =>
        have H := HC6.out
        clear HC6
        have H' := Aside0.mk H
        clear H
        go_wp2
        go_loopg [8] k (fun kq v8 w' => ∃ (x8_1 : Int), v8 = .int .i64 x8_1 ∧ Aside0 (sigilref4_one.l0 kq a0 a1 (bt a0 a1) x8_1 = some (r1, r2, r3)) ∧ Aside0 (kq ≤ k) ∧ Aside0 (Below w.heap.size w w'))
        case atStart => exact ⟨(a1), (by first | rfl | (simp; done) | (simp [*]; done)), H', ⟨Nat.le_refl _⟩, ⟨by repeat (first | (with_reducible first | exact HB.out | apply below_alloc | apply pw_below_drewN | apply below_drew1) | exact HB.out)⟩⟩
        case round =>
          clear H'
          try clear p2
          try clear c3
          try clear c3b0
          try clear c4
          try clear c4b0
          try clear c5
          try clear p5
          try clear q5
          try clear hx5
          try clear p5
          try clear q5
          obtain ⟨x8_1, rfl, HA, HK1, HB⟩ := hrel
          cases gk with
          | zero => exact absurd HA.out (by simp [sigilref4_one.l0])
          | succ k1 =>
            have H := HA.out
            clear HA
            simp only [sigilref4_one.l0] at H
            by_cases c7 : x8_1 < (a0.size : Int)
            · rw [if_pos c7] at H
              have c7b0 : decide (x8_1 < (a0.size : Int)) = true := decide_eq_true c7
              clear c7
              (first | rw [c7b0] | (simp only [i64_w, i32_w]; rw [c7b0]) | skip)
              by_cases c8 : 0 ≤ x8_1
              · rw [if_pos c8] at H
                have c8b0 : decide (0 ≤ x8_1) = true := decide_eq_true c8
                clear c8
                replace H := Option.bind_eq_some_iff.mp H
                obtain ⟨t170, A100, H⟩ := H
                replace H : (if t170 = true then (sigilref4_one.l0 k1 a0 a1 (bt a0 a1) (wrap64 (x8_1 + 1))) else ((sigilref4_digit.f (bt a0 x8_1) 10).bind fun t171 => (if t171 = true then (sigilref4_one.l0 k1 a0 a1 (bt a0 a1) (wrap64 (x8_1 + 1))) else (sigilref4_one.j1 k1 a0 a1 (bt a0 a1) x8_1)))) = some (r1, r2, r3) := H
                have A10 := Aside0.mk A100
                clear A100
                by_cases c11 : t170 = true
                · subst c11
                  have H1 : (sigilref4_one.l0 k1 a0 a1 (bt a0 a1) (wrap64 (x8_1 + 1))) = some (r1, r2, r3) := by rw [if_pos rfl] at H; exact H
                  clear H
                  have H := H1
                  clear H1
                  have H' := Aside0.mk H
                  clear H
                  have p9 : 0 ≤ (x8_1 : Int) := of_decide_eq_true (by first | (with_reducible assumption) | assumption)
                  have q9 : x8_1 < (a0.size : Int) := of_decide_eq_true (by first | (with_reducible assumption) | assumption)
                  have hx9 := bt_at a0 x8_1
                  replace p9 := eq_true p9
                  replace q9 := eq_true q9
                  go_wp2_with (first | (go_at_call 77; (with_reducible refine (sigilref4_letter.calls (bt a0 x8_1) true _ A10.out).mono ?_); rintro e w' ⟨rfl, ⟨nd, rfl⟩⟩))
                  go_roundg k1
                  case measure => have := HK1.out; omega
                  case rel => exact ⟨(wrap64 (x8_1 + 1)), (by first | rfl | (simp; done) | (simp [*]; done)), H', ⟨by have := HK1.out; omega⟩, ⟨by repeat (first | (with_reducible first | exact HB.out | apply below_alloc | apply pw_below_drewN | apply below_drew1) | exact HB.out)⟩⟩
                · replace c11 := Bool.eq_false_iff.mpr c11
                  subst c11
                  have H1 : ((sigilref4_digit.f (bt a0 x8_1) 10).bind fun t171 => (if t171 = true then (sigilref4_one.l0 k1 a0 a1 (bt a0 a1) (wrap64 (x8_1 + 1))) else (sigilref4_one.j1 k1 a0 a1 (bt a0 a1) x8_1))) = some (r1, r2, r3) := by rw [if_neg (show ¬ (false = true) by decide)] at H; exact H
                  clear H
                  have H := H1
                  clear H1
                  replace H := Option.bind_eq_some_iff.mp H
                  obtain ⟨t171, A130, H⟩ := H
                  replace H : (if t171 = true then (sigilref4_one.l0 k1 a0 a1 (bt a0 a1) (wrap64 (x8_1 + 1))) else (sigilref4_one.j1 k1 a0 a1 (bt a0 a1) x8_1)) = some (r1, r2, r3) := H
                  have A13 := Aside0.mk A130
                  clear A130
                  by_cases c14 : t171 = true
                  · subst c14
                    have H1 : (sigilref4_one.l0 k1 a0 a1 (bt a0 a1) (wrap64 (x8_1 + 1))) = some (r1, r2, r3) := by rw [if_pos rfl] at H; exact H
                    clear H
                    have H := H1
                    clear H1
                    have H' := Aside0.mk H
                    clear H
                    have p9 : 0 ≤ (x8_1 : Int) := of_decide_eq_true (by first | (with_reducible assumption) | assumption)
                    have q9 : x8_1 < (a0.size : Int) := of_decide_eq_true (by first | (with_reducible assumption) | assumption)
                    have hx9 := bt_at a0 x8_1
                    replace p9 := eq_true p9
                    replace q9 := eq_true q9
                    go_wp2_with (first | (go_at_call 77; (with_reducible refine (sigilref4_letter.calls (bt a0 x8_1) false _ A10.out).mono ?_); rintro e w' ⟨rfl, ⟨nd, rfl⟩⟩; have p12 : 0 ≤ (x8_1 : Int) := of_decide_eq_true (by first | (with_reducible assumption) | assumption); have q12 : x8_1 < (a0.size : Int) := of_decide_eq_true (by first | (with_reducible assumption) | assumption); have hx12 := bt_at a0 x8_1; replace p12 := eq_true p12; replace q12 := eq_true q12) | (go_at_call 75; (with_reducible refine (sigilref4_digit.calls (bt a0 x8_1) 10 true _ A13.out).mono ?_); rintro e w' ⟨rfl, ⟨nd, rfl⟩⟩))
                    go_roundg k1
                    case measure => have := HK1.out; omega
                    case rel => exact ⟨(wrap64 (x8_1 + 1)), (by first | rfl | (simp; done) | (simp [*]; done)), H', ⟨by have := HK1.out; omega⟩, ⟨by repeat (first | (with_reducible first | exact HB.out | apply below_alloc | apply pw_below_drewN | apply below_drew1) | exact HB.out)⟩⟩
                  · replace c14 := Bool.eq_false_iff.mpr c14
                    subst c14
                    have H1 : (sigilref4_one.j1 k1 a0 a1 (bt a0 a1) x8_1) = some (r1, r2, r3) := by rw [if_neg (show ¬ (false = true) by decide)] at H; exact H
                    clear H
                    have H := H1
                    clear H1
                    have H' := Aside0.mk H
                    clear H
                    have p9 : 0 ≤ (x8_1 : Int) := of_decide_eq_true (by first | (with_reducible assumption) | assumption)
                    have q9 : x8_1 < (a0.size : Int) := of_decide_eq_true (by first | (with_reducible assumption) | assumption)
                    have hx9 := bt_at a0 x8_1
                    replace p9 := eq_true p9
                    replace q9 := eq_true q9
                    go_wp2_with (first | (go_at_call 77; (with_reducible refine (sigilref4_letter.calls (bt a0 x8_1) false _ A10.out).mono ?_); rintro e w' ⟨rfl, ⟨nd, rfl⟩⟩; have p12 : 0 ≤ (x8_1 : Int) := of_decide_eq_true (by first | (with_reducible assumption) | assumption); have q12 : x8_1 < (a0.size : Int) := of_decide_eq_true (by first | (with_reducible assumption) | assumption); have hx12 := bt_at a0 x8_1; replace p12 := eq_true p12; replace q12 := eq_true q12) | (go_at_call 75; (with_reducible refine (sigilref4_digit.calls (bt a0 x8_1) 10 false _ A13.out).mono ?_); rintro e w' ⟨rfl, ⟨nd, rfl⟩⟩))
                    go_meet
                    case rel => exact ⟨_, (x8_1), (by first | rfl | (simp; done) | (simp [*]; done)), H', ⟨by have := HK1.out; first | omega | exact Nat.le_refl _⟩, ⟨by repeat (first | (with_reducible first | exact HB.out | apply below_alloc | apply pw_below_drewN | apply below_drew1) | exact HB.out)⟩⟩
              · rw [if_neg c8] at H
                exact absurd H (by simp)
            · rw [if_neg c7] at H
              have c7b0 : decide (x8_1 < (a0.size : Int)) = false := decide_eq_false c7
              clear c7
              (first | rw [c7b0] | (simp only [i64_w, i32_w]; rw [c7b0]) | skip)
              have H' := Aside0.mk H
              clear H
              go_wp2
              go_meet
              case rel => exact ⟨_, (x8_1), (by first | rfl | (simp; done) | (simp [*]; done)), H', ⟨by have := HK1.out; first | omega | exact Nat.le_refl _⟩, ⟨by repeat (first | (with_reducible first | exact HB.out | apply below_alloc | apply pw_below_drewN | apply below_drew1) | exact HB.out)⟩⟩
      case rest =>
        clear HC6
        try clear c1
        try clear p1
        try clear q1
        try clear hx1
        try clear p2
        try clear c3
        try clear c3b0
        try clear c4
        try clear c4b0
        try clear c5
        try clear p5
        try clear q5
        try clear hx5
        try clear p6
        try clear c7
        try clear c7b0
        try clear c8
        try clear c8b0
        try clear p9
        try clear q9
        try clear hx9
        try clear c11
        try clear p12
        try clear q12
        try clear hx12
        try clear c14
        try clear p12
        try clear p2
        try clear p5
        try clear p9
        try clear q12
        try clear q5
        try clear q9
        obtain ⟨kq, x8_5, rfl, HA, HJ5, HB⟩ := hcut
        cases kq with
        | zero => exact absurd HA.out (by simp [sigilref4_one.j1])
        | succ kj5 =>
          have H := HA.out
          clear HA
          simp only [sigilref4_one.j1] at H
          replace H := Option.bind_eq_some_iff.mp H
          obtain ⟨t172, A150, H⟩ := H
          replace H : (if t172 = true then (some (1, x8_5, 0)) else ((sigilref4_digit.f (bt a0 a1) 10).bind fun t173 => (if t173 = true then (if 0 ≤ a1 then (if a1 ≤ x8_5 then (if x8_5 ≤ (a0.size : Int) then ((sigilref4_Digits.f kj5 (a0.extract (a1 : Int).toNat (x8_5 : Int).toNat)).bind fun bt174 => (if bt174.2 = true then (some (2, x8_5, 0)) else (some (0, 0, 41)))) else (none)) else (none)) else (none)) else (if (bt a0 a1) = 34 then (sigilref4_one.j2 kj5 a0 a1 (bt a0 a1) true) else (sigilref4_one.j2 kj5 a0 a1 (bt a0 a1) ((bt a0 a1) == 39)))))) = some (r1, r2, r3) := H
          have A15 := Aside0.mk A150
          clear A150
          by_cases c16 : t172 = true
          · subst c16
            have H1 : (some (1, x8_5, 0)) = some (r1, r2, r3) := by rw [if_pos rfl] at H; exact H
            clear H
            have H := H1
            clear H1
            simp only [Option.some.injEq, Prod.mk.injEq] at H
            obtain ⟨rfl, rfl, rfl⟩ := H
            go_wp2_with (first | ((with_reducible refine gate_callee (f := 77) rfl ?_); refine goesL_ (some 37) rfl rfl Tryd.func77 (by kernel_rfl) rfl #[.int .u8 (bt a0 a1)] rfl (by (try simp only [List.map_toArray, List.map_cons, List.map_nil]); first | done | rfl | (simp only [List.length_drop, List.length_take]; rfl)) ?_; (with_reducible refine (sigilref4_letter.calls (bt a0 a1) true _ A15.out).mono ?_); rintro e w' ⟨rfl, ⟨nd, rfl⟩⟩; refine ⟨_, rfl, ?_⟩))
            go_ret3
            exact ⟨by first | rfl | (simp [errW_none, errW_some] <;> rfl) | (simp [*, errW_none, errW_some] <;> rfl), by repeat (first | (with_reducible first | exact HB.out | apply below_alloc | apply pw_below_drewN | apply below_drew1) | exact HB.out)⟩
          · replace c16 := Bool.eq_false_iff.mpr c16
            subst c16
            have H1 : ((sigilref4_digit.f (bt a0 a1) 10).bind fun t173 => (if t173 = true then (if 0 ≤ a1 then (if a1 ≤ x8_5 then (if x8_5 ≤ (a0.size : Int) then ((sigilref4_Digits.f kj5 (a0.extract (a1 : Int).toNat (x8_5 : Int).toNat)).bind fun bt174 => (if bt174.2 = true then (some (2, x8_5, 0)) else (some (0, 0, 41)))) else (none)) else (none)) else (none)) else (if (bt a0 a1) = 34 then (sigilref4_one.j2 kj5 a0 a1 (bt a0 a1) true) else (sigilref4_one.j2 kj5 a0 a1 (bt a0 a1) ((bt a0 a1) == 39))))) = some (r1, r2, r3) := by rw [if_neg (show ¬ (false = true) by decide)] at H; exact H
            clear H
            have H := H1
            clear H1
            replace H := Option.bind_eq_some_iff.mp H
            obtain ⟨t173, A170, H⟩ := H
            replace H : (if t173 = true then (if 0 ≤ a1 then (if a1 ≤ x8_5 then (if x8_5 ≤ (a0.size : Int) then ((sigilref4_Digits.f kj5 (a0.extract (a1 : Int).toNat (x8_5 : Int).toNat)).bind fun bt174 => (if bt174.2 = true then (some (2, x8_5, 0)) else (some (0, 0, 41)))) else (none)) else (none)) else (none)) else (if (bt a0 a1) = 34 then (sigilref4_one.j2 kj5 a0 a1 (bt a0 a1) true) else (sigilref4_one.j2 kj5 a0 a1 (bt a0 a1) ((bt a0 a1) == 39)))) = some (r1, r2, r3) := H
            have A17 := Aside0.mk A170
            clear A170
            by_cases c18 : t173 = true
            · subst c18
              have H1 : (if 0 ≤ a1 then (if a1 ≤ x8_5 then (if x8_5 ≤ (a0.size : Int) then ((sigilref4_Digits.f kj5 (a0.extract (a1 : Int).toNat (x8_5 : Int).toNat)).bind fun bt174 => (if bt174.2 = true then (some (2, x8_5, 0)) else (some (0, 0, 41)))) else (none)) else (none)) else (none)) = some (r1, r2, r3) := by rw [if_pos rfl] at H; exact H
              clear H
              have H := H1
              clear H1
              by_cases c19 : 0 ≤ a1
              · rw [if_pos c19] at H
                have c19b0 := eq_true c19
                have c19b1 : decide (0 ≤ a1) = true := decide_eq_true c19
                clear c19
                by_cases c20 : a1 ≤ x8_5
                · rw [if_pos c20] at H
                  have c20b0 := eq_true c20
                  have c20b1 : decide (a1 ≤ x8_5) = true := decide_eq_true c20
                  clear c20
                  by_cases c21 : x8_5 ≤ (a0.size : Int)
                  · rw [if_pos c21] at H
                    have c21b0 := eq_true c21
                    have c21b1 : decide (x8_5 ≤ (a0.size : Int)) = true := decide_eq_true c21
                    clear c21
                    replace H := Option.bind_eq_some_iff.mp H
                    obtain ⟨⟨t174, t175⟩, A220, H⟩ := H
                    replace H : (if t175 = true then (some (2, x8_5, 0)) else (some (0, 0, 41))) = some (r1, r2, r3) := H
                    have A22 := Aside0.mk A220
                    clear A220
                    by_cases c23 : t175 = true
                    · subst c23
                      have H1 : (some (2, x8_5, 0)) = some (r1, r2, r3) := by rw [if_pos rfl] at H; exact H
                      clear H
                      have H := H1
                      clear H1
                      simp only [Option.some.injEq, Prod.mk.injEq] at H
                      obtain ⟨rfl, rfl, rfl⟩ := H
                      go_wp2_with (first | ((with_reducible refine gate_callee (f := 77) rfl ?_); refine goesL_ (some 37) rfl rfl Tryd.func77 (by kernel_rfl) rfl #[.int .u8 (bt a0 a1)] rfl (by (try simp only [List.map_toArray, List.map_cons, List.map_nil]); first | done | rfl | (simp only [List.length_drop, List.length_take]; rfl)) ?_; (with_reducible refine (sigilref4_letter.calls (bt a0 a1) false _ A15.out).mono ?_); rintro e w' ⟨rfl, ⟨nd, rfl⟩⟩; refine ⟨_, rfl, ?_⟩) | ((with_reducible refine gate_callee (f := 75) rfl ?_); refine goesL_ (some 41) rfl rfl Tryd.func75 (by kernel_rfl) rfl #[.int .u8 (bt a0 a1), .int .u8 10] rfl (by (try simp only [List.map_toArray, List.map_cons, List.map_nil]); first | done | rfl | (simp only [List.length_drop, List.length_take]; rfl)) ?_; (with_reducible refine (sigilref4_digit.calls (bt a0 a1) 10 true _ A17.out).mono ?_); rintro e w' ⟨rfl, ⟨nd, rfl⟩⟩; refine ⟨_, rfl, ?_⟩) | ((with_reducible refine gate_callee (f := 78) rfl ?_); refine goesL_ (some 47) rfl rfl Tryd.func78 (by kernel_rfl) rfl #[.string (a0.extract (a1 : Int).toNat (x8_5 : Int).toNat)] rfl (by (try simp only [List.map_toArray, List.map_cons, List.map_nil]); first | done | rfl | (simp only [List.length_drop, List.length_take]; rfl)) ?_; (with_reducible refine (sigilref4_Digits.calls kj5 (a0.extract (a1 : Int).toNat (x8_5 : Int).toNat) t174 true _ A22.out).mono ?_); rintro e w' ⟨rfl, ⟨nd, rfl⟩⟩; refine ⟨_, rfl, ?_⟩))
                      go_ret3
                      exact ⟨by first | rfl | (simp [errW_none, errW_some] <;> rfl) | (simp [*, errW_none, errW_some] <;> rfl), by repeat (first | (with_reducible first | exact HB.out | apply below_alloc | apply pw_below_drewN | apply below_drew1) | exact HB.out)⟩
                    · replace c23 := Bool.eq_false_iff.mpr c23
                      subst c23
                      have H1 : (some (0, 0, 41)) = some (r1, r2, r3) := by rw [if_neg (show ¬ (false = true) by decide)] at H; exact H
                      clear H
                      have H := H1
                      clear H1
                      simp only [Option.some.injEq, Prod.mk.injEq] at H
                      obtain ⟨rfl, rfl, rfl⟩ := H
                      go_wp2_with (first | ((with_reducible refine gate_callee (f := 77) rfl ?_); refine goesL_ (some 37) rfl rfl Tryd.func77 (by kernel_rfl) rfl #[.int .u8 (bt a0 a1)] rfl (by (try simp only [List.map_toArray, List.map_cons, List.map_nil]); first | done | rfl | (simp only [List.length_drop, List.length_take]; rfl)) ?_; (with_reducible refine (sigilref4_letter.calls (bt a0 a1) false _ A15.out).mono ?_); rintro e w' ⟨rfl, ⟨nd, rfl⟩⟩; refine ⟨_, rfl, ?_⟩) | ((with_reducible refine gate_callee (f := 75) rfl ?_); refine goesL_ (some 41) rfl rfl Tryd.func75 (by kernel_rfl) rfl #[.int .u8 (bt a0 a1), .int .u8 10] rfl (by (try simp only [List.map_toArray, List.map_cons, List.map_nil]); first | done | rfl | (simp only [List.length_drop, List.length_take]; rfl)) ?_; (with_reducible refine (sigilref4_digit.calls (bt a0 a1) 10 true _ A17.out).mono ?_); rintro e w' ⟨rfl, ⟨nd, rfl⟩⟩; refine ⟨_, rfl, ?_⟩) | ((with_reducible refine gate_callee (f := 78) rfl ?_); refine goesL_ (some 47) rfl rfl Tryd.func78 (by kernel_rfl) rfl #[.string (a0.extract (a1 : Int).toNat (x8_5 : Int).toNat)] rfl (by (try simp only [List.map_toArray, List.map_cons, List.map_nil]); first | done | rfl | (simp only [List.length_drop, List.length_take]; rfl)) ?_; (with_reducible refine (sigilref4_Digits.calls kj5 (a0.extract (a1 : Int).toNat (x8_5 : Int).toNat) t174 false _ A22.out).mono ?_); rintro e w' ⟨rfl, ⟨nd, rfl⟩⟩; refine ⟨_, rfl, ?_⟩))
                      go_ret3
                      exact ⟨by first | rfl | (simp [errW_none, errW_some] <;> rfl) | (simp [*, errW_none, errW_some] <;> rfl), by repeat (first | (with_reducible first | exact HB.out | apply below_alloc | apply pw_below_drewN | apply below_drew1) | exact HB.out)⟩
                  · rw [if_neg c21] at H
                    exact absurd H (by simp)
                · rw [if_neg c20] at H
                  exact absurd H (by simp)
              · rw [if_neg c19] at H
                exact absurd H (by simp)
            · replace c18 := Bool.eq_false_iff.mpr c18
              subst c18
              have H1 : (if (bt a0 a1) = 34 then (sigilref4_one.j2 kj5 a0 a1 (bt a0 a1) true) else (sigilref4_one.j2 kj5 a0 a1 (bt a0 a1) ((bt a0 a1) == 39))) = some (r1, r2, r3) := by rw [if_neg (show ¬ (false = true) by decide)] at H; exact H
              clear H
              have H := H1
              clear H1
              have HC24 := Aside0.mk H
              clear H
              go_upto_region 12 with (first | ((with_reducible refine gate_callee (f := 77) rfl ?_); refine goesL_ (some 37) rfl rfl Tryd.func77 (by kernel_rfl) rfl #[.int .u8 (bt a0 a1)] rfl (by (try simp only [List.map_toArray, List.map_cons, List.map_nil]); first | done | rfl | (simp only [List.length_drop, List.length_take]; rfl)) ?_; (with_reducible refine (sigilref4_letter.calls (bt a0 a1) false _ A15.out).mono ?_); rintro e w' ⟨rfl, ⟨nd, rfl⟩⟩; refine ⟨_, rfl, ?_⟩) | ((with_reducible refine gate_callee (f := 75) rfl ?_); refine goesL_ (some 41) rfl rfl Tryd.func75 (by kernel_rfl) rfl #[.int .u8 (bt a0 a1), .int .u8 10] rfl (by (try simp only [List.map_toArray, List.map_cons, List.map_nil]); first | done | rfl | (simp only [List.length_drop, List.length_take]; rfl)) ?_; (with_reducible refine (sigilref4_digit.calls (bt a0 a1) 10 false _ A17.out).mono ?_); rintro e w' ⟨rfl, ⟨nd, rfl⟩⟩; refine ⟨_, rfl, ?_⟩))
              (try simp only [Act.put, List.setIfInBounds_toArray, List.set_cons_zero, List.set_cons_succ])
              go_cut [53] (fun v53 wc => ∃ (kq : Nat) (x53_23 : Bool), v53 = .bool x53_23 ∧ Aside0 (sigilref4_one.j2 kq a0 a1 (bt a0 a1) x53_23 = some (r1, r2, r3)) ∧ Aside0 (kq ≤ kj5) ∧ Aside0 (Below w.heap.size w wc))
              case first =>
                have H := HC24.out
                clear HC24
                by_cases c25 : (bt a0 a1) = 34
                · rw [if_pos c25] at H
                  have c25b0 : ((bt a0 a1) == 34) = true := beq_iff_eq.mpr c25
                  have c25b1 : ((bt a0 a1) != 34) = false := bne_eq_false_iff_eq.mpr c25
                  clear c25
                  (first | rw [c25b0] | (simp only [i64_w, i32_w]; rw [c25b0]) | skip)
                  have H' := Aside0.mk H
                  clear H
                  go_wp2
                  go_meet
                  case rel => exact ⟨_, (true), (by first | rfl | (simp; done) | (simp [*]; done)), H', ⟨by have := HJ5.out; first | omega | exact Nat.le_refl _⟩, ⟨by repeat (first | (with_reducible first | exact HB.out | apply below_alloc | apply pw_below_drewN | apply below_drew1) | exact HB.out)⟩⟩
                · rw [if_neg c25] at H
                  have c25b0 : ((bt a0 a1) == 34) = false := beq_eq_false_iff_ne.mpr c25
                  have c25b1 : ((bt a0 a1) != 34) = true := bne_iff_ne.mpr c25
                  (first | rw [c25b0] | (simp only [i64_w, i32_w]; rw [c25b0]) | skip)
                  have H' := Aside0.mk H
                  clear H
                  go_wp2
                  go_meet
                  case rel => exact ⟨_, (((bt a0 a1) == 39)), (by first | rfl | (simp; done) | (simp [*]; done)), H', ⟨by have := HJ5.out; first | omega | exact Nat.le_refl _⟩, ⟨by repeat (first | (with_reducible first | exact HB.out | apply below_alloc | apply pw_below_drewN | apply below_drew1) | exact HB.out)⟩⟩
              case rest =>
                clear HC24
                try clear c1
                try clear p1
                try clear q1
                try clear hx1
                try clear c2
                try clear p2
                try clear c3
                try clear c3b0
                try clear c4
                try clear c4b0
                try clear c5
                try clear p5
                try clear q5
                try clear hx5
                try clear p6
                try clear c7
                try clear c7b0
                try clear c8
                try clear c8b0
                try clear p9
                try clear q9
                try clear hx9
                try clear c11
                try clear p12
                try clear q12
                try clear hx12
                try clear c14
                try clear c16
                try clear c18
                try clear c19
                try clear c19b0
                try clear c19b1
                try clear c20
                try clear c20b0
                try clear c20b1
                try clear c21
                try clear c21b0
                try clear c21b1
                try clear c23
                try clear c25
                try clear c25b0
                try clear c25b1
                try clear p1
                try clear p12
                try clear p2
                try clear p5
                try clear p6
                try clear p9
                try clear q1
                try clear q12
                try clear q5
                try clear q9
                obtain ⟨kq, x53_23, rfl, HA, HJ23, HB⟩ := hcut
                cases kq with
                | zero => exact absurd HA.out (by simp [sigilref4_one.j2])
                | succ kj23 =>
                  have H := HA.out
                  clear HA
                  simp only [sigilref4_one.j2] at H
                  by_cases c26 : x53_23 = true
                  · subst c26
                    have H1 : ((sigilref4_quoted.f kj23 a0 a1).bind fun bt176 => (if bt176.2 = 0 then (some (0, 0, 42)) else (some (3, bt176.2, 0)))) = some (r1, r2, r3) := by rw [if_pos rfl] at H; exact H
                    clear H
                    have H := H1
                    clear H1
                    replace H := Option.bind_eq_some_iff.mp H
                    obtain ⟨⟨t176, t177⟩, A270, H⟩ := H
                    replace H : (if t177 = 0 then (some (0, 0, 42)) else (some (3, t177, 0))) = some (r1, r2, r3) := H
                    have A27 := Aside0.mk A270
                    clear A270
                    by_cases c28 : t177 = 0
                    · rw [if_pos c28] at H
                      have c28b0 : (t177 == 0) = true := beq_iff_eq.mpr c28
                      have c28b1 : (t177 != 0) = false := bne_eq_false_iff_eq.mpr c28
                      clear c28
                      simp only [Option.some.injEq, Prod.mk.injEq] at H
                      obtain ⟨rfl, rfl, rfl⟩ := H
                      go_wp2_with (first | ((with_reducible refine gate_callee (f := 42) rfl ?_); refine goesL_ (some 63) rfl rfl Tryd.func42 (by kernel_rfl) rfl #[.string a0, .int .i64 a1] rfl (by (try simp only [List.map_toArray, List.map_cons, List.map_nil]); first | done | rfl | (simp only [List.length_drop, List.length_take]; rfl)) ?_; (with_reducible refine (sigilref4_quoted.calls kj23 a0 a1 t176 t177 _ A27.out).mono ?_); rintro e w29 ⟨v178, rfl, ho0, hb⟩; refine ⟨_, rfl, ?_⟩; have n0_ := Aside0.mk (Kd.R_lower ho0 (below_size (by repeat (first | (with_reducible first | exact HB.out | apply below_alloc | apply pw_below_drewN | apply below_drew1) | exact HB.out)))); have n1_ := Aside0.mk (below_step (by repeat (first | (with_reducible first | exact HB.out | apply below_alloc | apply pw_below_drewN | apply below_drew1) | exact HB.out)) hb); clear HB; have HO179 := n0_; have HB := n1_; clear n0_ n1_; (try clear hb); (try clear hb2); (try clear hk); (try clear hi); (try clear ho0)))
                      go_ret3
                      exact ⟨by first | rfl | (simp [errW_none, errW_some] <;> rfl) | (simp [*, errW_none, errW_some] <;> rfl), by repeat (first | (with_reducible first | exact HB.out | apply below_alloc | apply pw_below_drewN | apply below_drew1) | exact HB.out)⟩
                    · rw [if_neg c28] at H
                      have c28b0 : (t177 == 0) = false := beq_eq_false_iff_ne.mpr c28
                      have c28b1 : (t177 != 0) = true := bne_iff_ne.mpr c28
                      simp only [Option.some.injEq, Prod.mk.injEq] at H
                      obtain ⟨rfl, rfl, rfl⟩ := H
                      go_wp2_with (first | ((with_reducible refine gate_callee (f := 42) rfl ?_); refine goesL_ (some 63) rfl rfl Tryd.func42 (by kernel_rfl) rfl #[.string a0, .int .i64 a1] rfl (by (try simp only [List.map_toArray, List.map_cons, List.map_nil]); first | done | rfl | (simp only [List.length_drop, List.length_take]; rfl)) ?_; (with_reducible refine (sigilref4_quoted.calls kj23 a0 a1 t176 t177 _ A27.out).mono ?_); rintro e w30 ⟨v178, rfl, ho0, hb⟩; refine ⟨_, rfl, ?_⟩; have n0_ := Aside0.mk (Kd.R_lower ho0 (below_size (by repeat (first | (with_reducible first | exact HB.out | apply below_alloc | apply pw_below_drewN | apply below_drew1) | exact HB.out)))); have n1_ := Aside0.mk (below_step (by repeat (first | (with_reducible first | exact HB.out | apply below_alloc | apply pw_below_drewN | apply below_drew1) | exact HB.out)) hb); clear HB; have HO179 := n0_; have HB := n1_; clear n0_ n1_; (try clear hb); (try clear hb2); (try clear hk); (try clear hi); (try clear ho0)))
                      go_ret3
                      exact ⟨by first | rfl | (simp [errW_none, errW_some] <;> rfl) | (simp [*, errW_none, errW_some] <;> rfl), by repeat (first | (with_reducible first | exact HB.out | apply below_alloc | apply pw_below_drewN | apply below_drew1) | exact HB.out)⟩
                  · replace c26 := Bool.eq_false_iff.mpr c26
                    subst c26
                    have H1 : ((sigilref4_sign.f kj23 (bt a0 a1)).bind fun t180 => (if t180 = true then (some (4, wrap64 (a1 + 1), 0)) else (some (0, 0, 40)))) = some (r1, r2, r3) := by rw [if_neg (show ¬ (false = true) by decide)] at H; exact H
                    clear H
                    have H := H1
                    clear H1
                    replace H := Option.bind_eq_some_iff.mp H
                    obtain ⟨t180, A310, H⟩ := H
                    replace H : (if t180 = true then (some (4, wrap64 (a1 + 1), 0)) else (some (0, 0, 40))) = some (r1, r2, r3) := H
                    have A31 := Aside0.mk A310
                    clear A310
                    by_cases c32 : t180 = true
                    · subst c32
                      have H1 : (some (4, wrap64 (a1 + 1), 0)) = some (r1, r2, r3) := by rw [if_pos rfl] at H; exact H
                      clear H
                      have H := H1
                      clear H1
                      simp only [Option.some.injEq, Prod.mk.injEq] at H
                      obtain ⟨rfl, rfl, rfl⟩ := H
                      go_wp2_with (first | ((with_reducible refine gate_callee (f := 79) rfl ?_); refine goesL_ (some 71) rfl rfl Tryd.func79 (by kernel_rfl) rfl #[.int .u8 (bt a0 a1)] rfl (by (try simp only [List.map_toArray, List.map_cons, List.map_nil]); first | done | rfl | (simp only [List.length_drop, List.length_take]; rfl)) ?_; (with_reducible refine (sigilref4_sign.calls kj23 (bt a0 a1) true _ A31.out).mono ?_); rintro e w' ⟨rfl, ⟨nd, rfl⟩⟩; refine ⟨_, rfl, ?_⟩))
                      go_ret3
                      exact ⟨by first | rfl | (simp [errW_none, errW_some] <;> rfl) | (simp [*, errW_none, errW_some] <;> rfl), by repeat (first | (with_reducible first | exact HB.out | apply below_alloc | apply pw_below_drewN | apply below_drew1) | exact HB.out)⟩
                    · replace c32 := Bool.eq_false_iff.mpr c32
                      subst c32
                      have H1 : (some (0, 0, 40)) = some (r1, r2, r3) := by rw [if_neg (show ¬ (false = true) by decide)] at H; exact H
                      clear H
                      have H := H1
                      clear H1
                      simp only [Option.some.injEq, Prod.mk.injEq] at H
                      obtain ⟨rfl, rfl, rfl⟩ := H
                      go_wp2_with (first | ((with_reducible refine gate_callee (f := 79) rfl ?_); refine goesL_ (some 71) rfl rfl Tryd.func79 (by kernel_rfl) rfl #[.int .u8 (bt a0 a1)] rfl (by (try simp only [List.map_toArray, List.map_cons, List.map_nil]); first | done | rfl | (simp only [List.length_drop, List.length_take]; rfl)) ?_; (with_reducible refine (sigilref4_sign.calls kj23 (bt a0 a1) false _ A31.out).mono ?_); rintro e w' ⟨rfl, ⟨nd, rfl⟩⟩; refine ⟨_, rfl, ?_⟩))
                      go_ret3
                      exact ⟨by first | rfl | (simp [errW_none, errW_some] <;> rfl) | (simp [*, errW_none, errW_some] <;> rfl), by repeat (first | (with_reducible first | exact HB.out | apply below_alloc | apply pw_below_drewN | apply below_drew1) | exact HB.out)⟩
    · rw [if_neg c4] at H
      exact absurd H (by simp)
  · rw [if_neg c3] at H
    exact absurd H (by simp)

end Go.Proofs.YtabgnbbljjohdaaRDoor.A
