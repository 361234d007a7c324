-- THIS SESSION'S TEXT: written by plugprint.py out of the translation, with contracts proved by hand.
import Derived.Test.YtabgnbbljjohdaaRDoorAx0
import Derived.Test.YtabgnbbljjohdaaRDoorAx3
import Derived.Test.YtabgnbbljjohdaaRDoorAx4
namespace Go.Proofs.YtabgnbbljjohdaaRDoor.A
open Go.RowKit Go.Proofs.YtabgnbbljjohdaaRDoorW.PrintWords Go.Proofs.YtabgnbbljjohdaaRDoorW.PrintLast Go.Proofs.YtabgnbbljjohdaaRDoorW.PrintMore
attribute [local go_sem] max2_int min2_int max_two min_two max_three min_three max_four min_four   -- for this text's walks alone
set_option linter.unusedVariables false
set_option linter.unusedSimpArgs false

/-! ### scan_escape: function 53 -/
mutual
def scan_escape.j0 : Nat → ByteArray → Int → Int → Int → Bool → Option (Int × Int)
  | 0, _, _, _, _, _ => none
  | k + 1, x0, x6, x7, x8, x28 => if x28 = true then (scan_escape.j1 k x0 16 1 2) else (scan_escape.j1 k x0 x6 x7 x8)
def scan_escape.j1 : Nat → ByteArray → Int → Int → Int → Option (Int × Int)
  | 0, _, _, _, _ => none
  | k + 1, x0, x6, x7, x8 => scan_escape.l0 k x0 x6 x7 x8 0 x7
def scan_escape.l0 : Nat → ByteArray → Int → Int → Int → Int → Int → Option (Int × Int)
  | 0, _, _, _, _, _, _ => none
  | k + 1, x0, x6, x7, x8, x9, x10 => if x7 < (x0.size : Int) then (if x7 < (wrap64 (x10 + x8)) then (if 0 ≤ x7 then ((scan_value.f k (bt x0 x7)).bind fun t105 => (if t105 < x6 then ((scan_value.f k (bt x0 x7)).bind fun t106 => (scan_escape.l0 k x0 x6 (wrap64 (x7 + 1)) x8 (wrap64 ((wrap64 (x9 * x6)) + t106)) x10)) else (if x7 = x10 then (some (0, 0)) else (if x9 > 255 then (some (0, 0)) else (some ((x9) % 256, x7)))))) else (none)) else (if x7 = x10 then (some (0, 0)) else (if x9 > 255 then (some (0, 0)) else (some ((x9) % 256, x7))))) else (if x7 = x10 then (some (0, 0)) else (if x9 > 255 then (some (0, 0)) else (some ((x9) % 256, x7))))
end
def scan_escape.f (k : Nat) (a0 : ByteArray) : Option (Int × Int) := if a0.toList = ([] : List UInt8) then (some (0, 0)) else (if 0 < (a0.size : Int) then ((scan_simple.f (bt a0 0)).bind fun bt103 => (if bt103.2 = true then (some (bt103.1, 1)) else (if (bt a0 0) = 120 then (scan_escape.j0 k a0 8 0 3 true) else (scan_escape.j0 k a0 8 0 3 ((bt a0 0) == 88))))) else (none))
theorem scan_escape.mono_l : ∀ k, (∀ y0 y1 y2 y3 y4, LeO (scan_escape.j0 k y0 y1 y2 y3 y4) (scan_escape.j0 (k + 1) y0 y1 y2 y3 y4)) ∧ (∀ y0 y1 y2 y3, LeO (scan_escape.j1 k y0 y1 y2 y3) (scan_escape.j1 (k + 1) y0 y1 y2 y3)) ∧ (∀ y0 y1 y2 y3 y4 y5, LeO (scan_escape.l0 k y0 y1 y2 y3 y4 y5) (scan_escape.l0 (k + 1) y0 y1 y2 y3 y4 y5))
  | 0 => ⟨fun _ _ _ _ _ r h => by simp [scan_escape.j0] at h, fun _ _ _ _ r h => by simp [scan_escape.j1] at h, fun _ _ _ _ _ _ r h => by simp [scan_escape.l0] at h⟩
  | k + 1 => by
    obtain ⟨ih0, ih1, ih2⟩ := scan_escape.mono_l k
    refine ⟨?_, ?_, ?_⟩
    · intro y0 y1 y2 y3 y4
      unfold scan_escape.j0
      repeat' first
      | (with_reducible exact ih0 _ _ _ _ _)
      | (with_reducible exact ih1 _ _ _ _)
      | (with_reducible exact ih2 _ _ _ _ _ _)
      | (with_reducible exact scan_value.mono _ _)
      | (with_reducible exact LeO.refl _)
      | (with_reducible exact LeO.none _)
      | (with_reducible refine LeO.ite ?_ ?_)
      | (with_reducible refine LeO.bind ?_ (fun _ => ?_))
      | exact ih0 _ _ _ _ _
      | exact ih1 _ _ _ _
      | exact ih2 _ _ _ _ _ _
      | exact scan_value.mono _ _
      | exact LeO.none _
      | refine LeO.ite ?_ ?_
      | refine LeO.bind ?_ (fun _ => ?_)
    · intro y0 y1 y2 y3
      unfold scan_escape.j1
      repeat' first
      | (with_reducible exact ih0 _ _ _ _ _)
      | (with_reducible exact ih1 _ _ _ _)
      | (with_reducible exact ih2 _ _ _ _ _ _)
      | (with_reducible exact scan_value.mono _ _)
      | (with_reducible exact LeO.refl _)
      | (with_reducible exact LeO.none _)
      | (with_reducible refine LeO.ite ?_ ?_)
      | (with_reducible refine LeO.bind ?_ (fun _ => ?_))
      | exact ih0 _ _ _ _ _
      | exact ih1 _ _ _ _
      | exact ih2 _ _ _ _ _ _
      | exact scan_value.mono _ _
      | exact LeO.none _
      | refine LeO.ite ?_ ?_
      | refine LeO.bind ?_ (fun _ => ?_)
    · intro y0 y1 y2 y3 y4 y5
      unfold scan_escape.l0
      repeat' first
      | (with_reducible exact ih0 _ _ _ _ _)
      | (with_reducible exact ih1 _ _ _ _)
      | (with_reducible exact ih2 _ _ _ _ _ _)
      | (with_reducible exact scan_value.mono _ _)
      | (with_reducible exact LeO.refl _)
      | (with_reducible exact LeO.none _)
      | (with_reducible refine LeO.ite ?_ ?_)
      | (with_reducible refine LeO.bind ?_ (fun _ => ?_))
      | exact ih0 _ _ _ _ _
      | exact ih1 _ _ _ _
      | exact ih2 _ _ _ _ _ _
      | exact scan_value.mono _ _
      | exact LeO.none _
      | refine LeO.ite ?_ ?_
      | refine LeO.bind ?_ (fun _ => ?_)
theorem scan_escape.mono : ∀ a0 k, LeO (scan_escape.f k a0) (scan_escape.f (k + 1) a0) := by
  intro a0 k
  obtain ⟨ih0, ih1, ih2⟩ := scan_escape.mono_l k
  unfold scan_escape.f
  repeat' first
      | (with_reducible exact ih0 _ _ _ _ _)
      | (with_reducible exact ih1 _ _ _ _)
      | (with_reducible exact ih2 _ _ _ _ _ _)
      | (with_reducible exact scan_value.mono _ _)
      | (with_reducible exact LeO.refl _)
      | (with_reducible exact LeO.none _)
      | (with_reducible refine LeO.ite ?_ ?_)
      | (with_reducible refine LeO.bind ?_ (fun _ => ?_))
      | exact ih0 _ _ _ _ _
      | exact ih1 _ _ _ _
      | exact ih2 _ _ _ _ _ _
      | exact scan_value.mono _ _
      | exact LeO.none _
      | refine LeO.ite ?_ ?_
      | refine LeO.bind ?_ (fun _ => ?_)
set_option maxHeartbeats 8000000 in
set_option maxRecDepth 100000 in
theorem scan_escape.calls (k : Nat) (a0 : ByteArray) (r1 : Int) (r2 : Int) (w : World) (h : scan_escape.f k a0 = some (r1, r2)) :
    Calls Tryd.prog 53 #[.string a0] w fun e w' => e = .returned (.tuple #[.int .u8 r1, .int .i64 r2]) ∧ Drawn0 w w' := by
  have H : (if a0.toList = ([] : List UInt8) then (some (0, 0)) else (if 0 < (a0.size : Int) then ((scan_simple.f (bt a0 0)).bind fun bt103 => (if bt103.2 = true then (some (bt103.1, 1)) else (if (bt a0 0) = 120 then (scan_escape.j0 k a0 8 0 3 true) else (scan_escape.j0 k a0 8 0 3 ((bt a0 0) == 88))))) else (none))) = some (r1, r2) := h
  clear h
  by_cases c2 : a0.toList = ([] : List UInt8)
  · rw [if_pos c2] at H
    have c2b0 : (a0.toList == ([] : List UInt8)) = true := beq_iff_eq.mpr c2
    have c2b1 : (a0.toList != ([] : List UInt8)) = false := bne_eq_false_iff_eq.mpr c2
    clear c2
    simp only [Option.some.injEq, Prod.mk.injEq] at H
    obtain ⟨rfl, rfl⟩ := H
    go_enter Tryd.func53, Tryd.ntmps53
    go_wp2
    go_ret2
    exact ⟨by first | rfl | (simp; done) | (simp [*]; done), by repeat (first | exact Drawn0.refl _ | apply Drawn0.step)⟩
  · rw [if_neg c2] at H
    have c2b0 : (a0.toList == ([] : List UInt8)) = false := beq_eq_false_iff_ne.mpr c2
    have c2b1 : (a0.toList != ([] : List UInt8)) = true := bne_iff_ne.mpr c2
    by_cases c3 : 0 < (a0.size : Int)
    · rw [if_pos c3] at H
      have c3b0 : decide (0 < (a0.size : Int)) = true := decide_eq_true c3
      have c3b1 : decide (0 < a0.size) = true := decide_eq_true (by omega)
      clear c3
      replace H := Option.bind_eq_some_iff.mp H
      obtain ⟨⟨t103, t104⟩, A50, H⟩ := H
      replace H : (if t104 = true then (some (t103, 1)) else (if (bt a0 0) = 120 then (scan_escape.j0 k a0 8 0 3 true) else (scan_escape.j0 k a0 8 0 3 ((bt a0 0) == 88)))) = some (r1, r2) := H
      have A5 := Aside0.mk A50
      clear A50
      by_cases c6 : t104 = true
      · subst c6
        have H1 : (some (t103, 1)) = some (r1, r2) := by rw [if_pos rfl] at H; exact H
        clear H
        have H := H1
        clear H1
        simp only [Option.some.injEq, Prod.mk.injEq] at H
        obtain ⟨rfl, rfl⟩ := H
        have p4 : 0 ≤ (0 : Int) := (by omega)
        have q4 : 0 < a0.size := (by have : (0 : Int) < (a0.size : Int) := of_decide_eq_true (by first | (with_reducible assumption) | assumption); omega)
        have hx4 : ∀ h : 0 < a0.size, ((a0[0]'h).toNat : Int) = bt a0 0 := bt_at a0 0
        clear p4
        have qi4 : (0 < (a0.size : Int)) = True := eq_true (of_decide_eq_true (by first | (with_reducible assumption) | assumption))
        replace q4 := eq_true q4
        go_enter Tryd.func53, Tryd.ntmps53
        go_wp2_with (first | ((with_reducible refine gate_callee (f := 72) rfl ?_); refine goesL_ (some 16) rfl rfl Tryd.func72 (by kernel_rfl) rfl #[.int .u8 (bt a0 0)] rfl (by (try simp only [List.map_toArray, List.map_cons, List.map_nil]); first | done | rfl | (simp only [List.length_drop, List.length_take]; rfl)) ?_; (with_reducible refine (scan_simple.calls (bt a0 0) t103 true _ A5.out).mono ?_); rintro e w' ⟨rfl, ⟨nd, rfl⟩⟩; refine ⟨_, rfl, ?_⟩))
        go_ret2
        exact ⟨by first | rfl | (simp; done) | (simp [*]; done), by repeat (first | exact Drawn0.refl _ | apply Drawn0.step)⟩
      · replace c6 := Bool.eq_false_iff.mpr c6
        subst c6
        have H1 : (if (bt a0 0) = 120 then (scan_escape.j0 k a0 8 0 3 true) else (scan_escape.j0 k a0 8 0 3 ((bt a0 0) == 88))) = some (r1, r2) := by rw [if_neg (show ¬ (false = true) by decide)] at H; exact H
        clear H
        have H := H1
        clear H1
        have HC7 := Aside0.mk H
        clear H
        have p4 : 0 ≤ (0 : Int) := (by omega)
        have q4 : 0 < a0.size := (by have : (0 : Int) < (a0.size : Int) := of_decide_eq_true (by first | (with_reducible assumption) | assumption); omega)
        have hx4 : ∀ h : 0 < a0.size, ((a0[0]'h).toNat : Int) = bt a0 0 := bt_at a0 0
        clear p4
        have qi4 : (0 < (a0.size : Int)) = True := eq_true (of_decide_eq_true (by first | (with_reducible assumption) | assumption))
        replace q4 := eq_true q4
        go_enter Tryd.func53, Tryd.ntmps53
        go_upto_region 7 with (first | ((with_reducible refine gate_callee (f := 72) rfl ?_); refine goesL_ (some 16) rfl rfl Tryd.func72 (by kernel_rfl) rfl #[.int .u8 (bt a0 0)] rfl (by (try simp only [List.map_toArray, List.map_cons, List.map_nil]); first | done | rfl | (simp only [List.length_drop, List.length_take]; rfl)) ?_; (with_reducible refine (scan_simple.calls (bt a0 0) t103 false _ A5.out).mono ?_); rintro e w' ⟨rfl, ⟨nd, rfl⟩⟩; refine ⟨_, rfl, ?_⟩))
        (try simp only [Act.put, List.setIfInBounds_toArray, List.set_cons_zero, List.set_cons_succ])
        go_cut [28] (fun v28 wc => ∃ (kq : Nat) (x28_6 : Bool), v28 = .bool x28_6 ∧ Aside0 (scan_escape.j0 kq a0 8 0 3 x28_6 = some (r1, r2)) ∧ Aside0 (kq ≤ k) ∧ Drawn0 w wc)
        case first =>
          have H := HC7.out
          clear HC7
          by_cases c9 : (bt a0 0) = 120
          · rw [if_pos c9] at H
            have c9b0 : ((bt a0 0) == 120) = true := beq_iff_eq.mpr c9
            have c9b1 : ((bt a0 0) != 120) = false := bne_eq_false_iff_eq.mpr c9
            clear c9
            (first | rw [c9b0] | (simp only [i64_w, i32_w]; rw [c9b0]) | skip)
            have H' := Aside0.mk H
            clear H
            have p8 : 0 ≤ (0 : Int) := (by omega)
            have q8 : 0 < a0.size := (by have : (0 : Int) < (a0.size : Int) := of_decide_eq_true (by first | (with_reducible assumption) | assumption); omega)
            have hx8 : ∀ h : 0 < a0.size, ((a0[0]'h).toNat : Int) = bt a0 0 := bt_at a0 0
            clear p8
            have qi8 : (0 < (a0.size : Int)) = True := eq_true (of_decide_eq_true (by first | (with_reducible assumption) | assumption))
            replace q8 := eq_true q8
            go_wp2
            go_meet
            case rel => exact ⟨_, (true), (by first | rfl | (simp; done) | (simp [*]; done)), H', ⟨by first | omega | exact Nat.le_refl _⟩, by repeat (first | exact Drawn0.refl _ | apply Drawn0.step)⟩
          · rw [if_neg c9] at H
            have c9b0 : ((bt a0 0) == 120) = false := beq_eq_false_iff_ne.mpr c9
            have c9b1 : ((bt a0 0) != 120) = true := bne_iff_ne.mpr c9
            (first | rw [c9b0] | (simp only [i64_w, i32_w]; rw [c9b0]) | skip)
            have H' := Aside0.mk H
            clear H
            have p8 : 0 ≤ (0 : Int) := (by omega)
            have q8 : 0 < a0.size := (by have : (0 : Int) < (a0.size : Int) := of_decide_eq_true (by first | (with_reducible assumption) | assumption); omega)
            have hx8 : ∀ h : 0 < a0.size, ((a0[0]'h).toNat : Int) = bt a0 0 := bt_at a0 0
            clear p8
            have qi8 : (0 < (a0.size : Int)) = True := eq_true (of_decide_eq_true (by first | (with_reducible assumption) | assumption))
            replace q8 := eq_true q8
            have p10 : 0 ≤ (0 : Int) := (by omega)
            have q10 : 0 < a0.size := (by have : (0 : Int) < (a0.size : Int) := of_decide_eq_true (by first | (with_reducible assumption) | assumption); omega)
            have hx10 : ∀ h : 0 < a0.size, ((a0[0]'h).toNat : Int) = bt a0 0 := bt_at a0 0
            clear p10
            have qi10 : (0 < (a0.size : Int)) = True := eq_true (of_decide_eq_true (by first | (with_reducible assumption) | assumption))
            replace q10 := eq_true q10
            go_wp2
            go_meet
            case rel => exact ⟨_, (((bt a0 0) == 88)), (by first | rfl | (simp; done) | (simp [*]; done)), H', ⟨by first | omega | exact Nat.le_refl _⟩, by repeat (first | exact Drawn0.refl _ | apply Drawn0.step)⟩
        case rest =>
          clear HC7
          try clear p1
          try clear q1
          try clear hx1
          try clear qi1
          try clear c2
          try clear c2b0
          try clear c2b1
          try clear p2
          try clear c3
          try clear c3b0
          try clear c3b1
          try clear p4
          try clear q4
          try clear hx4
          try clear qi4
          try clear c5
          try clear c6
          try clear c7
          try clear p8
          try clear q8
          try clear hx8
          try clear qi8
          try clear c9
          try clear c9b0
          try clear c9b1
          try clear p10
          try clear q10
          try clear hx10
          try clear qi10
          try clear p10
          try clear p4
          try clear p8
          try clear q10
          try clear q4
          try clear q8
          obtain ⟨kq, x28_6, rfl, HA, HJ6, ⟨mc6, rfl⟩⟩ := hcut
          cases kq with
          | zero => exact absurd HA.out (by simp [scan_escape.j0])
          | succ kj6 =>
            have H := HA.out
            clear HA
            simp only [scan_escape.j0] at H
            have HC11 := Aside0.mk H
            clear H
            go_upto_if 28 with (fail)
            go_cut [6, 7, 8] (fun v6 v7 v8 wc => ∃ (kq : Nat) (x6_10 : Int) (x7_10 : Int) (x8_10 : Int), v6 = .int .i64 x6_10 ∧ v7 = .int .i64 x7_10 ∧ v8 = .int .i64 x8_10 ∧ Aside0 (scan_escape.j1 kq a0 x6_10 x7_10 x8_10 = some (r1, r2)) ∧ Aside0 (kq ≤ kj6) ∧ Drawn0 w wc)
            case first =>
              have H := HC11.out
              clear HC11
              by_cases c12 : x28_6 = true
              · subst c12
                have H1 : (scan_escape.j1 kj6 a0 16 1 2) = some (r1, r2) := by rw [if_pos rfl] at H; exact H
                clear H
                have H := H1
                clear H1
                have H' := Aside0.mk H
                clear H
                go_wp2
                go_meet
                case rel => exact ⟨_, (16), (1), (2), (by first | rfl | (simp; done) | (simp [*]; done)), (by first | rfl | (simp; done) | (simp [*]; done)), (by first | rfl | (simp; done) | (simp [*]; done)), H', ⟨by have := HJ6.out; first | omega | exact Nat.le_refl _⟩, by repeat (first | exact Drawn0.refl _ | apply Drawn0.step)⟩
              · replace c12 := Bool.eq_false_iff.mpr c12
                subst c12
                have H1 : (scan_escape.j1 kj6 a0 8 0 3) = some (r1, r2) := by rw [if_neg (show ¬ (false = true) by decide)] at H; exact H
                clear H
                have H := H1
                clear H1
                have H' := Aside0.mk H
                clear H
                go_wp2
                go_meet
                case rel => exact ⟨_, (8), (0), (3), (by first | rfl | (simp; done) | (simp [*]; done)), (by first | rfl | (simp; done) | (simp [*]; done)), (by first | rfl | (simp; done) | (simp [*]; done)), H', ⟨by have := HJ6.out; first | omega | exact Nat.le_refl _⟩, by repeat (first | exact Drawn0.refl _ | apply Drawn0.step)⟩
            case rest =>
              clear HC11
              try clear c1
              try clear p1
              try clear q1
              try clear hx1
              try clear qi1
              try clear c2
              try clear c2b0
              try clear c2b1
              try clear p2
              try clear c3
              try clear c3b0
              try clear c3b1
              try clear p4
              try clear q4
              try clear hx4
              try clear qi4
              try clear c5
              try clear c6
              try clear c7
              try clear p8
              try clear q8
              try clear hx8
              try clear qi8
              try clear c9
              try clear c9b0
              try clear c9b1
              try clear p10
              try clear q10
              try clear hx10
              try clear qi10
              try clear c12
              try clear p1
              try clear p10
              try clear p2
              try clear p4
              try clear p8
              try clear q1
              try clear q10
              try clear q4
              try clear q8
              obtain ⟨kq, x6_10, x7_10, x8_10, rfl, rfl, rfl, HA, HJ10, ⟨mc10, rfl⟩⟩ := hcut
              cases kq with
              | zero => exact absurd HA.out (by simp [scan_escape.j1])
              | succ kj10 =>
                have H := HA.out
                clear HA
                simp only [scan_escape.j1] at H
                have H' := Aside0.mk H
                clear H
                go_wp2
                go_loopg [7, 9] kj10 (fun kq v7 v9 w' => ∃ (x7_3 : Int) (x9_3 : Int), v7 = .int .i64 x7_3 ∧ v9 = .int .i64 x9_3 ∧ Aside0 (scan_escape.l0 kq a0 x6_10 x7_3 x8_10 x9_3 x7_10 = some (r1, r2)) ∧ Aside0 (kq ≤ kj10) ∧ Drawn0 w w')
                case atStart => exact ⟨(x7_10), (0), (by first | rfl | (simp; done) | (simp [*]; done)), (by first | rfl | (simp; done) | (simp [*]; done)), H', ⟨Nat.le_refl _⟩, by repeat (first | exact Drawn0.refl _ | apply Drawn0.step)⟩
                case round =>
                  clear H'
                  try clear c1
                  try clear p1
                  try clear q1
                  try clear hx1
                  try clear qi1
                  try clear c2
                  try clear c2b0
                  try clear c2b1
                  try clear p2
                  try clear c3
                  try clear c3b0
                  try clear c3b1
                  try clear p4
                  try clear q4
                  try clear hx4
                  try clear qi4
                  try clear c5
                  try clear c6
                  try clear c7
                  try clear p8
                  try clear q8
                  try clear hx8
                  try clear qi8
                  try clear c9
                  try clear c9b0
                  try clear c9b1
                  try clear c10
                  try clear p10
                  try clear q10
                  try clear hx10
                  try clear qi10
                  try clear c12
                  try clear p1
                  try clear p10
                  try clear p2
                  try clear p4
                  try clear p8
                  try clear q1
                  try clear q10
                  try clear q4
                  try clear q8
                  obtain ⟨x7_3, x9_3, rfl, rfl, HA, HK3, ⟨m3, rfl⟩⟩ := hrel
                  cases gk with
                  | zero => exact absurd HA.out (by simp [scan_escape.l0])
                  | succ k3 =>
                    have H := HA.out
                    clear HA
                    simp only [scan_escape.l0] at H
                    by_cases c13 : x7_3 < (a0.size : Int)
                    · rw [if_pos c13] at H
                      have c13b0 : decide (x7_3 < (a0.size : Int)) = true := decide_eq_true c13
                      clear c13
                      by_cases c14 : x7_3 < (wrap64 (x7_10 + x8_10))
                      · rw [if_pos c14] at H
                        have c14b0 : decide (x7_3 < (wrap64 (x7_10 + x8_10))) = true := decide_eq_true c14
                        clear c14
                        by_cases c15 : 0 ≤ x7_3
                        · rw [if_pos c15] at H
                          have c15b0 : decide (0 ≤ x7_3) = true := decide_eq_true c15
                          clear c15
                          replace H := Option.bind_eq_some_iff.mp H
                          obtain ⟨t105, A170, H⟩ := H
                          replace H : (if t105 < x6_10 then ((scan_value.f k3 (bt a0 x7_3)).bind fun t106 => (scan_escape.l0 k3 a0 x6_10 (wrap64 (x7_3 + 1)) x8_10 (wrap64 ((wrap64 (x9_3 * x6_10)) + t106)) x7_10)) else (if x7_3 = x7_10 then (some (0, 0)) else (if x9_3 > 255 then (some (0, 0)) else (some ((x9_3) % 256, x7_3))))) = some (r1, r2) := H
                          have A17 := Aside0.mk A170
                          clear A170
                          by_cases c18 : t105 < x6_10
                          · rw [if_pos c18] at H
                            have c18b0 : decide (t105 < x6_10) = true := decide_eq_true c18
                            clear c18
                            replace H := Option.bind_eq_some_iff.mp H
                            obtain ⟨t106, A200, H⟩ := H
                            replace H : (scan_escape.l0 k3 a0 x6_10 (wrap64 (x7_3 + 1)) x8_10 (wrap64 ((wrap64 (x9_3 * x6_10)) + t106)) x7_10) = some (r1, r2) := H
                            have A20 := Aside0.mk A200
                            clear A200
                            have H' := Aside0.mk H
                            clear H
                            have p16 : 0 ≤ (x7_3 : Int) := of_decide_eq_true (by first | (with_reducible assumption) | assumption)
                            have q16 : x7_3 < (a0.size : Int) := of_decide_eq_true (by first | (with_reducible assumption) | assumption)
                            have hx16 := bt_at a0 x7_3
                            replace p16 := eq_true p16
                            replace q16 := eq_true q16
                            go_wp2_with (first | (go_at_call 73; (with_reducible refine (scan_value.calls k3 (bt a0 x7_3) t105 _ A17.out).mono ?_); rintro e w' ⟨rfl, ⟨nd, rfl⟩⟩; have p19 : 0 ≤ (x7_3 : Int) := of_decide_eq_true (by first | (with_reducible assumption) | assumption); have q19 : x7_3 < (a0.size : Int) := of_decide_eq_true (by first | (with_reducible assumption) | assumption); have hx19 := bt_at a0 x7_3; replace p19 := eq_true p19; replace q19 := eq_true q19) | ((with_reducible refine gate_callee (f := 73) rfl ?_); refine goesL_ (some 55) rfl rfl Tryd.func73 (by kernel_rfl) rfl #[.int .u8 (bt a0 x7_3)] rfl (by (try simp only [List.map_toArray, List.map_cons, List.map_nil]); first | done | rfl | (simp only [List.length_drop, List.length_take]; rfl)) ?_; (with_reducible refine (scan_value.calls k3 (bt a0 x7_3) t106 _ A20.out).mono ?_); rintro e w' ⟨rfl, ⟨nd, rfl⟩⟩; refine ⟨_, rfl, ?_⟩))
                            go_roundg k3
                            case measure => have := HJ6.out; have := HJ10.out; have := HK3.out; omega
                            case rel => exact ⟨(wrap64 (x7_3 + 1)), (wrap64 ((wrap64 (x9_3 * x6_10)) + t106)), (by first | rfl | (simp; done) | (simp [*]; done)), (by first | rfl | (simp; done) | (simp [*]; done)), H', ⟨by have := HJ6.out; have := HJ10.out; have := HK3.out; omega⟩, by repeat (first | exact Drawn0.refl _ | apply Drawn0.step)⟩
                          · rw [if_neg c18] at H
                            have c18b0 : decide (t105 < x6_10) = false := decide_eq_false c18
                            clear c18
                            by_cases c21 : x7_3 = x7_10
                            · rw [if_pos c21] at H
                              have c21b0 : (x7_3 == x7_10) = true := beq_iff_eq.mpr c21
                              have c21b1 : (x7_3 != x7_10) = false := bne_eq_false_iff_eq.mpr c21
                              clear c21
                              simp only [Option.some.injEq, Prod.mk.injEq] at H
                              obtain ⟨rfl, rfl⟩ := H
                              have p16 : 0 ≤ (x7_3 : Int) := of_decide_eq_true (by first | (with_reducible assumption) | assumption)
                              have q16 : x7_3 < (a0.size : Int) := of_decide_eq_true (by first | (with_reducible assumption) | assumption)
                              have hx16 := bt_at a0 x7_3
                              replace p16 := eq_true p16
                              replace q16 := eq_true q16
                              go_wp2_with (first | (go_at_call 73; (with_reducible refine (scan_value.calls k3 (bt a0 x7_3) t105 _ A17.out).mono ?_); rintro e w' ⟨rfl, ⟨nd, rfl⟩⟩))
                              go_ret2
                              exact ⟨by first | rfl | (simp; done) | (simp [*]; done), by repeat (first | exact Drawn0.refl _ | apply Drawn0.step)⟩
                            · rw [if_neg c21] at H
                              have c21b0 : (x7_3 == x7_10) = false := beq_eq_false_iff_ne.mpr c21
                              have c21b1 : (x7_3 != x7_10) = true := bne_iff_ne.mpr c21
                              by_cases c22 : x9_3 > 255
                              · rw [if_pos c22] at H
                                have c22b0 : decide (255 < x9_3) = true := decide_eq_true c22
                                clear c22
                                simp only [Option.some.injEq, Prod.mk.injEq] at H
                                obtain ⟨rfl, rfl⟩ := H
                                have p16 : 0 ≤ (x7_3 : Int) := of_decide_eq_true (by first | (with_reducible assumption) | assumption)
                                have q16 : x7_3 < (a0.size : Int) := of_decide_eq_true (by first | (with_reducible assumption) | assumption)
                                have hx16 := bt_at a0 x7_3
                                replace p16 := eq_true p16
                                replace q16 := eq_true q16
                                go_wp2_with (first | (go_at_call 73; (with_reducible refine (scan_value.calls k3 (bt a0 x7_3) t105 _ A17.out).mono ?_); rintro e w' ⟨rfl, ⟨nd, rfl⟩⟩))
                                go_ret2
                                exact ⟨by first | rfl | (simp; done) | (simp [*]; done), by repeat (first | exact Drawn0.refl _ | apply Drawn0.step)⟩
                              · rw [if_neg c22] at H
                                have c22b0 : decide (255 < x9_3) = false := decide_eq_false c22
                                clear c22
                                simp only [Option.some.injEq, Prod.mk.injEq] at H
                                obtain ⟨rfl, rfl⟩ := H
                                have p16 : 0 ≤ (x7_3 : Int) := of_decide_eq_true (by first | (with_reducible assumption) | assumption)
                                have q16 : x7_3 < (a0.size : Int) := of_decide_eq_true (by first | (with_reducible assumption) | assumption)
                                have hx16 := bt_at a0 x7_3
                                replace p16 := eq_true p16
                                replace q16 := eq_true q16
                                go_wp2_with (first | (go_at_call 73; (with_reducible refine (scan_value.calls k3 (bt a0 x7_3) t105 _ A17.out).mono ?_); rintro e w' ⟨rfl, ⟨nd, rfl⟩⟩))
                                go_ret2
                                exact ⟨by first | rfl | (simp; done) | (simp [*]; done), by repeat (first | exact Drawn0.refl _ | apply Drawn0.step)⟩
                        · rw [if_neg c15] at H
                          exact absurd H (by simp)
                      · rw [if_neg c14] at H
                        have c14b0 : decide (x7_3 < (wrap64 (x7_10 + x8_10))) = false := decide_eq_false c14
                        clear c14
                        by_cases c23 : x7_3 = x7_10
                        · rw [if_pos c23] at H
                          have c23b0 : (x7_3 == x7_10) = true := beq_iff_eq.mpr c23
                          have c23b1 : (x7_3 != x7_10) = false := bne_eq_false_iff_eq.mpr c23
                          clear c23
                          simp only [Option.some.injEq, Prod.mk.injEq] at H
                          obtain ⟨rfl, rfl⟩ := H
                          go_wp2
                          go_ret2
                          exact ⟨by first | rfl | (simp; done) | (simp [*]; done), by repeat (first | exact Drawn0.refl _ | apply Drawn0.step)⟩
                        · rw [if_neg c23] at H
                          have c23b0 : (x7_3 == x7_10) = false := beq_eq_false_iff_ne.mpr c23
                          have c23b1 : (x7_3 != x7_10) = true := bne_iff_ne.mpr c23
                          by_cases c24 : x9_3 > 255
                          · rw [if_pos c24] at H
                            have c24b0 : decide (255 < x9_3) = true := decide_eq_true c24
                            clear c24
                            simp only [Option.some.injEq, Prod.mk.injEq] at H
                            obtain ⟨rfl, rfl⟩ := H
                            go_wp2
                            go_ret2
                            exact ⟨by first | rfl | (simp; done) | (simp [*]; done), by repeat (first | exact Drawn0.refl _ | apply Drawn0.step)⟩
                          · rw [if_neg c24] at H
                            have c24b0 : decide (255 < x9_3) = false := decide_eq_false c24
                            clear c24
                            simp only [Option.some.injEq, Prod.mk.injEq] at H
                            obtain ⟨rfl, rfl⟩ := H
                            go_wp2
                            go_ret2
                            exact ⟨by first | rfl | (simp; done) | (simp [*]; done), by repeat (first | exact Drawn0.refl _ | apply Drawn0.step)⟩
                    · rw [if_neg c13] at H
                      have c13b0 : decide (x7_3 < (a0.size : Int)) = false := decide_eq_false c13
                      clear c13
                      by_cases c25 : x7_3 = x7_10
                      · rw [if_pos c25] at H
                        have c25b0 : (x7_3 == x7_10) = true := beq_iff_eq.mpr c25
                        have c25b1 : (x7_3 != x7_10) = false := bne_eq_false_iff_eq.mpr c25
                        clear c25
                        simp only [Option.some.injEq, Prod.mk.injEq] at H
                        obtain ⟨rfl, rfl⟩ := H
                        go_wp2
                        go_ret2
                        exact ⟨by first | rfl | (simp; done) | (simp [*]; done), by repeat (first | exact Drawn0.refl _ | apply Drawn0.step)⟩
                      · rw [if_neg c25] at H
                        have c25b0 : (x7_3 == x7_10) = false := beq_eq_false_iff_ne.mpr c25
                        have c25b1 : (x7_3 != x7_10) = true := bne_iff_ne.mpr c25
                        by_cases c26 : x9_3 > 255
                        · rw [if_pos c26] at H
                          have c26b0 : decide (255 < x9_3) = true := decide_eq_true c26
                          clear c26
                          simp only [Option.some.injEq, Prod.mk.injEq] at H
                          obtain ⟨rfl, rfl⟩ := H
                          go_wp2
                          go_ret2
                          exact ⟨by first | rfl | (simp; done) | (simp [*]; done), by repeat (first | exact Drawn0.refl _ | apply Drawn0.step)⟩
                        · rw [if_neg c26] at H
                          have c26b0 : decide (255 < x9_3) = false := decide_eq_false c26
                          clear c26
                          simp only [Option.some.injEq, Prod.mk.injEq] at H
                          obtain ⟨rfl, rfl⟩ := H
                          go_wp2
                          go_ret2
                          exact ⟨by first | rfl | (simp; done) | (simp [*]; done), by repeat (first | exact Drawn0.refl _ | apply Drawn0.step)⟩
    · rw [if_neg c3] at H
      exact absurd H (by simp)

end Go.Proofs.YtabgnbbljjohdaaRDoor.A
