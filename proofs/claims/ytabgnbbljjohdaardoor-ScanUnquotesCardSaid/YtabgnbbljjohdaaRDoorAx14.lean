-- THIS SESSION'S TEXT: written by plugprint.py out of the translation, with contracts proved by hand.
import Derived.Test.YtabgnbbljjohdaaRDoorAx0
import Derived.Test.YtabgnbbljjohdaaRDoorAx13
namespace Go.Proofs.YtabgnbbljjohdaaRDoor.A
open Go.RowKit Go.Proofs.YtabgnbbljjohdaaRDoorW.PrintWords Go.Proofs.YtabgnbbljjohdaaRDoorW.PrintLast Go.Proofs.YtabgnbbljjohdaaRDoorW.PrintMore
attribute [local go_sem] max2_int min2_int max_two min_two max_three min_three max_four min_four   -- for this text's walks alone
set_option linter.unusedVariables false
set_option linter.unusedSimpArgs false

/-! ### sigilref4_pass: function 55 -/
mutual
def sigilref4_pass.l0 : Nat → ByteArray → Int → Option (Int × Bool)
  | 0, _, _ => none
  | k + 1, x0, x1 => if x1 < (x0.size : Int) then (if (wrap64 (x1 + 2)) ≤ (x0.size : Int) then (if 0 ≤ x1 then (if x1 ≤ (wrap64 (x1 + 2)) then (sigilref4_pass.j1 k x0 x1 (x0.extract (x1 : Int).toNat ((wrap64 (x1 + 2)) : Int).toNat)) else (none)) else (none)) else (sigilref4_pass.j1 k x0 x1 (⟨#[]⟩ : ByteArray))) else (some (x1, true))
def sigilref4_pass.j1 : Nat → ByteArray → Int → ByteArray → Option (Int × Bool)
  | 0, _, _, _ => none
  | k + 1, x0, x1, x6 => if 0 ≤ x1 then (if x1 < (x0.size : Int) then ((sigilref4_blank.f (bt x0 x1)).bind fun t168 => (if t168 = true then (sigilref4_pass.l0 k x0 (wrap64 (x1 + 1))) else (if x6.toList = ([47, 47] : List UInt8) then (sigilref4_pass.l1 k x0 x1) else (if x6.toList = ([47, 42] : List UInt8) then (sigilref4_pass.l2 k x0 x1 (wrap64 (x1 + 2))) else (some (x1, true)))))) else (none)) else (none)
def sigilref4_pass.l1 : Nat → ByteArray → Int → Option (Int × Bool)
  | 0, _, _ => none
  | k + 1, x0, x1 => if x1 < (x0.size : Int) then (if 0 ≤ x1 then (if (bt x0 x1) = 10 then (sigilref4_pass.l0 k x0 x1) else (sigilref4_pass.l1 k x0 (wrap64 (x1 + 1)))) else (none)) else (sigilref4_pass.l0 k x0 x1)
def sigilref4_pass.l2 : Nat → ByteArray → Int → Int → Option (Int × Bool)
  | 0, _, _, _ => none
  | k + 1, x0, x1, x7 => if (wrap64 (x7 + 2)) ≤ (x0.size : Int) then (if 0 ≤ x7 then (if x7 ≤ (wrap64 (x7 + 2)) then (if (x0.extract (x7 : Int).toNat ((wrap64 (x7 + 2)) : Int).toNat).toList = ([42, 47] : List UInt8) then (if (wrap64 (x7 + 2)) > (x0.size : Int) then (some (x1, false)) else (sigilref4_pass.l0 k x0 (wrap64 (x7 + 2)))) else (sigilref4_pass.l2 k x0 x1 (wrap64 (x7 + 1)))) else (none)) else (none)) else (if (wrap64 (x7 + 2)) > (x0.size : Int) then (some (x1, false)) else (sigilref4_pass.l0 k x0 (wrap64 (x7 + 2))))
end
def sigilref4_pass.f (k : Nat) (a0 : ByteArray) (a1 : Int) : Option (Int × Bool) := sigilref4_pass.l0 k a0 a1
theorem sigilref4_pass.mono_l : ∀ k, (∀ y0 y1, LeO (sigilref4_pass.l0 k y0 y1) (sigilref4_pass.l0 (k + 1) y0 y1)) ∧ (∀ y0 y1 y2, LeO (sigilref4_pass.j1 k y0 y1 y2) (sigilref4_pass.j1 (k + 1) y0 y1 y2)) ∧ (∀ y0 y1, LeO (sigilref4_pass.l1 k y0 y1) (sigilref4_pass.l1 (k + 1) y0 y1)) ∧ (∀ y0 y1 y2, LeO (sigilref4_pass.l2 k y0 y1 y2) (sigilref4_pass.l2 (k + 1) y0 y1 y2))
  | 0 => ⟨fun _ _ r h => by simp [sigilref4_pass.l0] at h, fun _ _ _ r h => by simp [sigilref4_pass.j1] at h, fun _ _ r h => by simp [sigilref4_pass.l1] at h, fun _ _ _ r h => by simp [sigilref4_pass.l2] at h⟩
  | k + 1 => by
    obtain ⟨ih0, ih1, ih2, ih3⟩ := sigilref4_pass.mono_l k
    refine ⟨?_, ?_, ?_, ?_⟩
    · intro y0 y1
      unfold sigilref4_pass.l0
      repeat' first
      | (with_reducible exact ih0 _ _)
      | (with_reducible exact ih1 _ _ _)
      | (with_reducible exact ih2 _ _)
      | (with_reducible exact ih3 _ _ _)
      | (with_reducible exact LeO.refl _)
      | (with_reducible exact LeO.none _)
      | (with_reducible refine LeO.ite ?_ ?_)
      | (with_reducible refine LeO.bind ?_ (fun _ => ?_))
      | exact ih0 _ _
      | exact ih1 _ _ _
      | exact ih2 _ _
      | exact ih3 _ _ _
      | exact LeO.none _
      | refine LeO.ite ?_ ?_
      | refine LeO.bind ?_ (fun _ => ?_)
    · intro y0 y1 y2
      unfold sigilref4_pass.j1
      repeat' first
      | (with_reducible exact ih0 _ _)
      | (with_reducible exact ih1 _ _ _)
      | (with_reducible exact ih2 _ _)
      | (with_reducible exact ih3 _ _ _)
      | (with_reducible exact LeO.refl _)
      | (with_reducible exact LeO.none _)
      | (with_reducible refine LeO.ite ?_ ?_)
      | (with_reducible refine LeO.bind ?_ (fun _ => ?_))
      | exact ih0 _ _
      | exact ih1 _ _ _
      | exact ih2 _ _
      | exact ih3 _ _ _
      | exact LeO.none _
      | refine LeO.ite ?_ ?_
      | refine LeO.bind ?_ (fun _ => ?_)
    · intro y0 y1
      unfold sigilref4_pass.l1
      repeat' first
      | (with_reducible exact ih0 _ _)
      | (with_reducible exact ih1 _ _ _)
      | (with_reducible exact ih2 _ _)
      | (with_reducible exact ih3 _ _ _)
      | (with_reducible exact LeO.refl _)
      | (with_reducible exact LeO.none _)
      | (with_reducible refine LeO.ite ?_ ?_)
      | (with_reducible refine LeO.bind ?_ (fun _ => ?_))
      | exact ih0 _ _
      | exact ih1 _ _ _
      | exact ih2 _ _
      | exact ih3 _ _ _
      | exact LeO.none _
      | refine LeO.ite ?_ ?_
      | refine LeO.bind ?_ (fun _ => ?_)
    · intro y0 y1 y2
      unfold sigilref4_pass.l2
      repeat' first
      | (with_reducible exact ih0 _ _)
      | (with_reducible exact ih1 _ _ _)
      | (with_reducible exact ih2 _ _)
      | (with_reducible exact ih3 _ _ _)
      | (with_reducible exact LeO.refl _)
      | (with_reducible exact LeO.none _)
      | (with_reducible refine LeO.ite ?_ ?_)
      | (with_reducible refine LeO.bind ?_ (fun _ => ?_))
      | exact ih0 _ _
      | exact ih1 _ _ _
      | exact ih2 _ _
      | exact ih3 _ _ _
      | exact LeO.none _
      | refine LeO.ite ?_ ?_
      | refine LeO.bind ?_ (fun _ => ?_)
theorem sigilref4_pass.mono : ∀ a0 a1 k, LeO (sigilref4_pass.f k a0 a1) (sigilref4_pass.f (k + 1) a0 a1) := by
  intro a0 a1 k
  obtain ⟨ih0, ih1, ih2, ih3⟩ := sigilref4_pass.mono_l k
  unfold sigilref4_pass.f
  repeat' first
      | (with_reducible exact ih0 _ _)
      | (with_reducible exact ih1 _ _ _)
      | (with_reducible exact ih2 _ _)
      | (with_reducible exact ih3 _ _ _)
      | (with_reducible exact LeO.refl _)
      | (with_reducible exact LeO.none _)
      | (with_reducible refine LeO.ite ?_ ?_)
      | (with_reducible refine LeO.bind ?_ (fun _ => ?_))
      | exact ih0 _ _
      | exact ih1 _ _ _
      | exact ih2 _ _
      | exact ih3 _ _ _
      | exact LeO.none _
      | refine LeO.ite ?_ ?_
      | refine LeO.bind ?_ (fun _ => ?_)
set_option maxHeartbeats 8000000 in
set_option maxRecDepth 100000 in
theorem sigilref4_pass.calls (k : Nat) (a0 : ByteArray) (a1 : Int) (r1 : Int) (r2 : Bool) (w : World) (h : sigilref4_pass.f k a0 a1 = some (r1, r2)) :
    Calls Tryd.prog 55 #[.string a0, .int .i64 a1] w fun e w' => e = .returned (.tuple #[.int .i64 r1, .bool r2]) ∧ Drawn0 w w' := by
  have H : (sigilref4_pass.l0 k a0 a1) = some (r1, r2) := h
  clear h
  have H' := Aside0.mk H
  clear H
  go_enter Tryd.func55, Tryd.ntmps55
  go_wp2
  go_loopg [1] k (fun kq v1 w' => ∃ (x1_1 : Int), v1 = .int .i64 x1_1 ∧ Aside0 (sigilref4_pass.l0 kq a0 x1_1 = some (r1, r2)) ∧ Aside0 (kq ≤ k) ∧ Drawn0 w w')
  case atStart => exact ⟨(a1), (by first | rfl | (simp; done) | (simp [*]; done)), H', ⟨Nat.le_refl _⟩, by repeat (first | exact Drawn0.refl _ | apply Drawn0.step)⟩
  case round =>
    clear H'
    try clear p2
    obtain ⟨x1_1, rfl, HA, HK1, ⟨m1, rfl⟩⟩ := hrel
    cases gk with
    | zero => exact absurd HA.out (by simp [sigilref4_pass.l0])
    | succ k1 =>
      have H := HA.out
      clear HA
      simp only [sigilref4_pass.l0] at H
      by_cases c3 : x1_1 < (a0.size : Int)
      · rw [if_pos c3] at H
        have c3b0 : decide (x1_1 < (a0.size : Int)) = true := decide_eq_true c3
        clear c3
        have HC4 := Aside0.mk H
        clear H
        go_upto_if 16 with (fail)
        go_cut [6] (fun v6 wc => ∃ (kq : Nat) (x6_3 : ByteArray), v6 = .string x6_3 ∧ Aside0 (sigilref4_pass.j1 kq a0 x1_1 x6_3 = some (r1, r2)) ∧ Aside0 (kq ≤ k1) ∧ Drawn0 w wc)
        case first =>
          have H := HC4.out
          clear HC4
          by_cases c5 : (wrap64 (x1_1 + 2)) ≤ (a0.size : Int)
          · rw [if_pos c5] at H
            have c5b0 : decide ((wrap64 (x1_1 + 2)) ≤ (a0.size : Int)) = true := decide_eq_true c5
            clear c5
            (first | rw [c5b0] | (simp only [i64_w, i32_w]; rw [c5b0]) | skip)
            by_cases c6 : 0 ≤ x1_1
            · rw [if_pos c6] at H
              have c6b0 := eq_true c6
              have c6b1 : decide (0 ≤ x1_1) = true := decide_eq_true c6
              clear c6
              by_cases c7 : x1_1 ≤ (wrap64 (x1_1 + 2))
              · rw [if_pos c7] at H
                have c7b0 := eq_true c7
                have c7b1 : decide (x1_1 ≤ (wrap64 (x1_1 + 2))) = true := decide_eq_true c7
                have c8b0 := eq_true (of_decide_eq_true (by first | (with_reducible assumption) | assumption) : (wrap64 (x1_1 + 2)) ≤ (a0.size : Int))
                have H' := Aside0.mk H
                clear H
                go_wp2
                go_meet
                case rel => exact ⟨_, (a0.extract (x1_1 : Int).toNat ((wrap64 (x1_1 + 2)) : Int).toNat), (by first | rfl | (simp; done) | (simp [*]; done)), H', ⟨by have := HK1.out; first | omega | exact Nat.le_refl _⟩, by repeat (first | exact Drawn0.refl _ | apply Drawn0.step)⟩
              · rw [if_neg c7] at H
                exact absurd H (by simp)
            · rw [if_neg c6] at H
              exact absurd H (by simp)
          · rw [if_neg c5] at H
            have c5b0 : decide ((wrap64 (x1_1 + 2)) ≤ (a0.size : Int)) = false := decide_eq_false c5
            clear c5
            (first | rw [c5b0] | (simp only [i64_w, i32_w]; rw [c5b0]) | skip)
            have H' := Aside0.mk H
            clear H
            go_wp2
            go_meet
            case rel => exact ⟨_, ((⟨#[]⟩ : ByteArray)), (by first | rfl | (simp; done) | (simp [*]; done)), H', ⟨by have := HK1.out; first | omega | exact Nat.le_refl _⟩, by repeat (first | exact Drawn0.refl _ | apply Drawn0.step)⟩
        case rest =>
          clear HC4
          try clear p2
          try clear c3
          try clear c3b0
          try clear c5
          try clear c5b0
          try clear c6
          try clear c6b0
          try clear c6b1
          try clear p6
          try clear c7
          try clear c7b0
          try clear c7b1
          try clear c8
          try clear c8b0
          try clear p2
          obtain ⟨kq, x6_3, rfl, HA, HJ3, ⟨mc3, rfl⟩⟩ := hcut
          cases kq with
          | zero => exact absurd HA.out (by simp [sigilref4_pass.j1])
          | succ kj3 =>
            have H := HA.out
            clear HA
            simp only [sigilref4_pass.j1] at H
            by_cases c9 : 0 ≤ x1_1
            · rw [if_pos c9] at H
              have c9b0 : decide (0 ≤ x1_1) = true := decide_eq_true c9
              clear c9
              by_cases c10 : x1_1 < (a0.size : Int)
              · rw [if_pos c10] at H
                have c10b0 : decide (x1_1 < (a0.size : Int)) = true := decide_eq_true c10
                clear c10
                replace H := Option.bind_eq_some_iff.mp H
                obtain ⟨t168, A120, H⟩ := H
                replace H : (if t168 = true then (sigilref4_pass.l0 kj3 a0 (wrap64 (x1_1 + 1))) else (if x6_3.toList = ([47, 47] : List UInt8) then (sigilref4_pass.l1 kj3 a0 x1_1) else (if x6_3.toList = ([47, 42] : List UInt8) then (sigilref4_pass.l2 kj3 a0 x1_1 (wrap64 (x1_1 + 2))) else (some (x1_1, true))))) = some (r1, r2) := H
                have A12 := Aside0.mk A120
                clear A120
                by_cases c13 : t168 = true
                · subst c13
                  have H1 : (sigilref4_pass.l0 kj3 a0 (wrap64 (x1_1 + 1))) = some (r1, r2) := by rw [if_pos rfl] at H; exact H
                  clear H
                  have H := H1
                  clear H1
                  have H' := Aside0.mk H
                  clear H
                  have p11 : 0 ≤ (x1_1 : Int) := of_decide_eq_true (by first | (with_reducible assumption) | assumption)
                  have q11 : x1_1 < (a0.size : Int) := of_decide_eq_true (by first | (with_reducible assumption) | assumption)
                  have hx11 := bt_at a0 x1_1
                  replace p11 := eq_true p11
                  replace q11 := eq_true q11
                  go_wp2_with (first | ((with_reducible refine gate_callee (f := 76) rfl ?_); refine goesL_ (some 27) rfl rfl Tryd.func76 (by kernel_rfl) rfl #[.int .u8 (bt a0 x1_1)] rfl (by (try simp only [List.map_toArray, List.map_cons, List.map_nil]); first | done | rfl | (simp only [List.length_drop, List.length_take]; rfl)) ?_; (with_reducible refine (sigilref4_blank.calls (bt a0 x1_1) true _ A12.out).mono ?_); rintro e w' ⟨rfl, ⟨nd, rfl⟩⟩; refine ⟨_, rfl, ?_⟩))
                  go_roundg kj3
                  case measure => have := HK1.out; have := HJ3.out; omega
                  case rel => exact ⟨(wrap64 (x1_1 + 1)), (by first | rfl | (simp; done) | (simp [*]; done)), H', ⟨by have := HK1.out; have := HJ3.out; omega⟩, by repeat (first | exact Drawn0.refl _ | apply Drawn0.step)⟩
                · replace c13 := Bool.eq_false_iff.mpr c13
                  subst c13
                  have H1 : (if x6_3.toList = ([47, 47] : List UInt8) then (sigilref4_pass.l1 kj3 a0 x1_1) else (if x6_3.toList = ([47, 42] : List UInt8) then (sigilref4_pass.l2 kj3 a0 x1_1 (wrap64 (x1_1 + 2))) else (some (x1_1, true)))) = some (r1, r2) := by rw [if_neg (show ¬ (false = true) by decide)] at H; exact H
                  clear H
                  have H := H1
                  clear H1
                  by_cases c14 : x6_3.toList = ([47, 47] : List UInt8)
                  · rw [if_pos c14] at H
                    have c14b0 : (x6_3.toList == ([47, 47] : List UInt8)) = true := beq_iff_eq.mpr c14
                    have c14b1 : (x6_3.toList != ([47, 47] : List UInt8)) = false := bne_eq_false_iff_eq.mpr c14
                    clear c14
                    have H' := Aside0.mk H
                    clear H
                    have p11 : 0 ≤ (x1_1 : Int) := of_decide_eq_true (by first | (with_reducible assumption) | assumption)
                    have q11 : x1_1 < (a0.size : Int) := of_decide_eq_true (by first | (with_reducible assumption) | assumption)
                    have hx11 := bt_at a0 x1_1
                    replace p11 := eq_true p11
                    replace q11 := eq_true q11
                    go_wp2_with (first | ((with_reducible refine gate_callee (f := 76) rfl ?_); refine goesL_ (some 27) rfl rfl Tryd.func76 (by kernel_rfl) rfl #[.int .u8 (bt a0 x1_1)] rfl (by (try simp only [List.map_toArray, List.map_cons, List.map_nil]); first | done | rfl | (simp only [List.length_drop, List.length_take]; rfl)) ?_; (with_reducible refine (sigilref4_blank.calls (bt a0 x1_1) false _ A12.out).mono ?_); rintro e w' ⟨rfl, ⟨nd, rfl⟩⟩; refine ⟨_, rfl, ?_⟩))
                    go_loopg [1] kj3 (fun kq v1 w' => ∃ (x1_3 : Int), v1 = .int .i64 x1_3 ∧ Aside0 (sigilref4_pass.l1 kq a0 x1_3 = some (r1, r2)) ∧ Aside0 (kq ≤ kj3) ∧ Drawn0 w w')
                    case atStart => exact ⟨(x1_1), (by first | rfl | (simp; done) | (simp [*]; done)), H', ⟨Nat.le_refl _⟩, by repeat (first | exact Drawn0.refl _ | apply Drawn0.step)⟩
                    case round =>
                      clear H'
                      try clear c1
                      try clear p1
                      try clear q1
                      try clear hx1
                      try clear p2
                      try clear c3
                      try clear c3b0
                      try clear c5
                      try clear c5b0
                      try clear c6
                      try clear c6b0
                      try clear c6b1
                      try clear p6
                      try clear c7
                      try clear c7b0
                      try clear c7b1
                      try clear c8
                      try clear c8b0
                      try clear c9
                      try clear c9b0
                      try clear c10
                      try clear c10b0
                      try clear p11
                      try clear q11
                      try clear hx11
                      try clear c13
                      try clear c14
                      try clear c14b0
                      try clear c14b1
                      try clear p11
                      try clear p2
                      try clear p6
                      try clear q11
                      obtain ⟨x1_3, rfl, HA, HK3, ⟨m3, rfl⟩⟩ := hrel
                      cases gk with
                      | zero => exact absurd HA.out (by simp [sigilref4_pass.l1])
                      | succ k3 =>
                        have H := HA.out
                        clear HA
                        simp only [sigilref4_pass.l1] at H
                        by_cases c15 : x1_3 < (a0.size : Int)
                        · rw [if_pos c15] at H
                          have c15b0 : decide (x1_3 < (a0.size : Int)) = true := decide_eq_true c15
                          clear c15
                          by_cases c16 : 0 ≤ x1_3
                          · rw [if_pos c16] at H
                            have c16b0 : decide (0 ≤ x1_3) = true := decide_eq_true c16
                            clear c16
                            by_cases c18 : (bt a0 x1_3) = 10
                            · rw [if_pos c18] at H
                              have c18b0 : ((bt a0 x1_3) == 10) = true := beq_iff_eq.mpr c18
                              have c18b1 : ((bt a0 x1_3) != 10) = false := bne_eq_false_iff_eq.mpr c18
                              clear c18
                              have H' := Aside0.mk H
                              clear H
                              have p17 : 0 ≤ (x1_3 : Int) := of_decide_eq_true (by first | (with_reducible assumption) | assumption)
                              have q17 : x1_3 < (a0.size : Int) := of_decide_eq_true (by first | (with_reducible assumption) | assumption)
                              have hx17 := bt_at a0 x1_3
                              replace p17 := eq_true p17
                              replace q17 := eq_true q17
                              go_wp2
                              go_roundg k3
                              case measure => have := HK1.out; have := HJ3.out; have := HK3.out; omega
                              case rel => exact ⟨(x1_3), (by first | rfl | (simp; done) | (simp [*]; done)), H', ⟨by have := HK1.out; have := HJ3.out; have := HK3.out; omega⟩, by repeat (first | exact Drawn0.refl _ | apply Drawn0.step)⟩
                            · rw [if_neg c18] at H
                              have c18b0 : ((bt a0 x1_3) == 10) = false := beq_eq_false_iff_ne.mpr c18
                              have c18b1 : ((bt a0 x1_3) != 10) = true := bne_iff_ne.mpr c18
                              have H' := Aside0.mk H
                              clear H
                              have p17 : 0 ≤ (x1_3 : Int) := of_decide_eq_true (by first | (with_reducible assumption) | assumption)
                              have q17 : x1_3 < (a0.size : Int) := of_decide_eq_true (by first | (with_reducible assumption) | assumption)
                              have hx17 := bt_at a0 x1_3
                              replace p17 := eq_true p17
                              replace q17 := eq_true q17
                              go_wp2
                              go_roundg k3
                              case measure => have := HK1.out; have := HJ3.out; have := HK3.out; omega
                              case rel => exact ⟨(wrap64 (x1_3 + 1)), (by first | rfl | (simp; done) | (simp [*]; done)), H', ⟨by have := HK1.out; have := HJ3.out; have := HK3.out; omega⟩, by repeat (first | exact Drawn0.refl _ | apply Drawn0.step)⟩
                          · rw [if_neg c16] at H
                            exact absurd H (by simp)
                        · rw [if_neg c15] at H
                          have c15b0 : decide (x1_3 < (a0.size : Int)) = false := decide_eq_false c15
                          clear c15
                          have H' := Aside0.mk H
                          clear H
                          go_wp2
                          go_roundg k3
                          case measure => have := HK1.out; have := HJ3.out; have := HK3.out; omega
                          case rel => exact ⟨(x1_3), (by first | rfl | (simp; done) | (simp [*]; done)), H', ⟨by have := HK1.out; have := HJ3.out; have := HK3.out; omega⟩, by repeat (first | exact Drawn0.refl _ | apply Drawn0.step)⟩
                  · rw [if_neg c14] at H
                    have c14b0 : (x6_3.toList == ([47, 47] : List UInt8)) = false := beq_eq_false_iff_ne.mpr c14
                    have c14b1 : (x6_3.toList != ([47, 47] : List UInt8)) = true := bne_iff_ne.mpr c14
                    by_cases c19 : x6_3.toList = ([47, 42] : List UInt8)
                    · rw [if_pos c19] at H
                      have c19b0 : (x6_3.toList == ([47, 42] : List UInt8)) = true := beq_iff_eq.mpr c19
                      have c19b1 : (x6_3.toList != ([47, 42] : List UInt8)) = false := bne_eq_false_iff_eq.mpr c19
                      clear c19
                      have H' := Aside0.mk H
                      clear H
                      have p11 : 0 ≤ (x1_1 : Int) := of_decide_eq_true (by first | (with_reducible assumption) | assumption)
                      have q11 : x1_1 < (a0.size : Int) := of_decide_eq_true (by first | (with_reducible assumption) | assumption)
                      have hx11 := bt_at a0 x1_1
                      replace p11 := eq_true p11
                      replace q11 := eq_true q11
                      go_wp2_with (first | ((with_reducible refine gate_callee (f := 76) rfl ?_); refine goesL_ (some 27) rfl rfl Tryd.func76 (by kernel_rfl) rfl #[.int .u8 (bt a0 x1_1)] rfl (by (try simp only [List.map_toArray, List.map_cons, List.map_nil]); first | done | rfl | (simp only [List.length_drop, List.length_take]; rfl)) ?_; (with_reducible refine (sigilref4_blank.calls (bt a0 x1_1) false _ A12.out).mono ?_); rintro e w' ⟨rfl, ⟨nd, rfl⟩⟩; refine ⟨_, rfl, ?_⟩))
                      go_loopg [7] kj3 (fun kq v7 w' => ∃ (x7_3 : Int), v7 = .int .i64 x7_3 ∧ Aside0 (sigilref4_pass.l2 kq a0 x1_1 x7_3 = some (r1, r2)) ∧ Aside0 (kq ≤ kj3) ∧ Drawn0 w w')
                      case atStart => exact ⟨(wrap64 (x1_1 + 2)), (by first | rfl | (simp; done) | (simp [*]; done)), H', ⟨Nat.le_refl _⟩, by repeat (first | exact Drawn0.refl _ | apply Drawn0.step)⟩
                      case round =>
                        clear H'
                        try clear c1
                        try clear p1
                        try clear q1
                        try clear hx1
                        try clear p2
                        try clear c3
                        try clear c3b0
                        try clear c5
                        try clear c5b0
                        try clear c6
                        try clear c6b0
                        try clear c6b1
                        try clear p6
                        try clear c7
                        try clear c7b0
                        try clear c7b1
                        try clear c8
                        try clear c8b0
                        try clear c9
                        try clear c9b0
                        try clear c10
                        try clear c10b0
                        try clear p11
                        try clear q11
                        try clear hx11
                        try clear c13
                        try clear c14
                        try clear c14b0
                        try clear c14b1
                        try clear c15
                        try clear c15b0
                        try clear c16
                        try clear c16b0
                        try clear p17
                        try clear q17
                        try clear hx17
                        try clear c18
                        try clear c18b0
                        try clear c18b1
                        try clear c19
                        try clear c19b0
                        try clear c19b1
                        try clear p1
                        try clear p11
                        try clear p17
                        try clear p2
                        try clear p6
                        try clear q1
                        try clear q11
                        try clear q17
                        obtain ⟨x7_3, rfl, HA, HK3, ⟨m3, rfl⟩⟩ := hrel
                        cases gk with
                        | zero => exact absurd HA.out (by simp [sigilref4_pass.l2])
                        | succ k3 =>
                          have H := HA.out
                          clear HA
                          simp only [sigilref4_pass.l2] at H
                          by_cases c20 : (wrap64 (x7_3 + 2)) ≤ (a0.size : Int)
                          · rw [if_pos c20] at H
                            have c20b0 : decide ((wrap64 (x7_3 + 2)) ≤ (a0.size : Int)) = true := decide_eq_true c20
                            clear c20
                            by_cases c21 : 0 ≤ x7_3
                            · rw [if_pos c21] at H
                              have c21b0 := eq_true c21
                              have c21b1 : decide (0 ≤ x7_3) = true := decide_eq_true c21
                              clear c21
                              by_cases c22 : x7_3 ≤ (wrap64 (x7_3 + 2))
                              · rw [if_pos c22] at H
                                have c22b0 := eq_true c22
                                have c22b1 : decide (x7_3 ≤ (wrap64 (x7_3 + 2))) = true := decide_eq_true c22
                                have c23b0 := eq_true (of_decide_eq_true (by first | (with_reducible assumption) | assumption) : (wrap64 (x7_3 + 2)) ≤ (a0.size : Int))
                                by_cases c24 : (a0.extract (x7_3 : Int).toNat ((wrap64 (x7_3 + 2)) : Int).toNat).toList = ([42, 47] : List UInt8)
                                · rw [if_pos c24] at H
                                  have c24b0 : ((a0.extract (x7_3 : Int).toNat ((wrap64 (x7_3 + 2)) : Int).toNat).toList == ([42, 47] : List UInt8)) = true := beq_iff_eq.mpr c24
                                  have c24b1 : ((a0.extract (x7_3 : Int).toNat ((wrap64 (x7_3 + 2)) : Int).toNat).toList != ([42, 47] : List UInt8)) = false := bne_eq_false_iff_eq.mpr c24
                                  clear c24
                                  by_cases c25 : (wrap64 (x7_3 + 2)) > (a0.size : Int)
                                  · rw [if_pos c25] at H
                                    have c25b0 : decide ((a0.size : Int) < (wrap64 (x7_3 + 2))) = true := decide_eq_true c25
                                    clear c25
                                    simp only [Option.some.injEq, Prod.mk.injEq] at H
                                    obtain ⟨rfl, rfl⟩ := H
                                    go_wp2
                                    go_ret2
                                    exact ⟨by first | rfl | (simp; done) | (simp [*]; done), by repeat (first | exact Drawn0.refl _ | apply Drawn0.step)⟩
                                  · rw [if_neg c25] at H
                                    have c25b0 : decide ((a0.size : Int) < (wrap64 (x7_3 + 2))) = false := decide_eq_false c25
                                    clear c25
                                    have H' := Aside0.mk H
                                    clear H
                                    go_wp2
                                    go_roundg k3
                                    case measure => have := HK1.out; have := HJ3.out; have := HK3.out; omega
                                    case rel => exact ⟨(wrap64 (x7_3 + 2)), (by first | rfl | (simp; done) | (simp [*]; done)), H', ⟨by have := HK1.out; have := HJ3.out; have := HK3.out; omega⟩, by repeat (first | exact Drawn0.refl _ | apply Drawn0.step)⟩
                                · rw [if_neg c24] at H
                                  have c24b0 : ((a0.extract (x7_3 : Int).toNat ((wrap64 (x7_3 + 2)) : Int).toNat).toList == ([42, 47] : List UInt8)) = false := beq_eq_false_iff_ne.mpr c24
                                  have c24b1 : ((a0.extract (x7_3 : Int).toNat ((wrap64 (x7_3 + 2)) : Int).toNat).toList != ([42, 47] : List UInt8)) = true := bne_iff_ne.mpr c24
                                  have H' := Aside0.mk H
                                  clear H
                                  go_wp2
                                  go_roundg k3
                                  case measure => have := HK1.out; have := HJ3.out; have := HK3.out; omega
                                  case rel => exact ⟨(wrap64 (x7_3 + 1)), (by first | rfl | (simp; done) | (simp [*]; done)), H', ⟨by have := HK1.out; have := HJ3.out; have := HK3.out; omega⟩, by repeat (first | exact Drawn0.refl _ | apply Drawn0.step)⟩
                              · rw [if_neg c22] at H
                                exact absurd H (by simp)
                            · rw [if_neg c21] at H
                              exact absurd H (by simp)
                          · rw [if_neg c20] at H
                            have c20b0 : decide ((wrap64 (x7_3 + 2)) ≤ (a0.size : Int)) = false := decide_eq_false c20
                            clear c20
                            by_cases c26 : (wrap64 (x7_3 + 2)) > (a0.size : Int)
                            · rw [if_pos c26] at H
                              have c26b0 : decide ((a0.size : Int) < (wrap64 (x7_3 + 2))) = true := decide_eq_true c26
                              clear c26
                              simp only [Option.some.injEq, Prod.mk.injEq] at H
                              obtain ⟨rfl, rfl⟩ := H
                              go_wp2
                              go_ret2
                              exact ⟨by first | rfl | (simp; done) | (simp [*]; done), by repeat (first | exact Drawn0.refl _ | apply Drawn0.step)⟩
                            · rw [if_neg c26] at H
                              have c26b0 : decide ((a0.size : Int) < (wrap64 (x7_3 + 2))) = false := decide_eq_false c26
                              clear c26
                              have H' := Aside0.mk H
                              clear H
                              go_wp2
                              go_roundg k3
                              case measure => have := HK1.out; have := HJ3.out; have := HK3.out; omega
                              case rel => exact ⟨(wrap64 (x7_3 + 2)), (by first | rfl | (simp; done) | (simp [*]; done)), H', ⟨by have := HK1.out; have := HJ3.out; have := HK3.out; omega⟩, by repeat (first | exact Drawn0.refl _ | apply Drawn0.step)⟩
                    · rw [if_neg c19] at H
                      have c19b0 : (x6_3.toList == ([47, 42] : List UInt8)) = false := beq_eq_false_iff_ne.mpr c19
                      have c19b1 : (x6_3.toList != ([47, 42] : List UInt8)) = true := bne_iff_ne.mpr c19
                      simp only [Option.some.injEq, Prod.mk.injEq] at H
                      obtain ⟨rfl, rfl⟩ := H
                      have p11 : 0 ≤ (x1_1 : Int) := of_decide_eq_true (by first | (with_reducible assumption) | assumption)
                      have q11 : x1_1 < (a0.size : Int) := of_decide_eq_true (by first | (with_reducible assumption) | assumption)
                      have hx11 := bt_at a0 x1_1
                      replace p11 := eq_true p11
                      replace q11 := eq_true q11
                      go_wp2_with (first | ((with_reducible refine gate_callee (f := 76) rfl ?_); refine goesL_ (some 27) rfl rfl Tryd.func76 (by kernel_rfl) rfl #[.int .u8 (bt a0 x1_1)] rfl (by (try simp only [List.map_toArray, List.map_cons, List.map_nil]); first | done | rfl | (simp only [List.length_drop, List.length_take]; rfl)) ?_; (with_reducible refine (sigilref4_blank.calls (bt a0 x1_1) false _ A12.out).mono ?_); rintro e w' ⟨rfl, ⟨nd, rfl⟩⟩; refine ⟨_, rfl, ?_⟩))
                      go_ret2
                      exact ⟨by first | rfl | (simp; done) | (simp [*]; done), by repeat (first | exact Drawn0.refl _ | apply Drawn0.step)⟩
              · rw [if_neg c10] at H
                exact absurd H (by simp)
            · rw [if_neg c9] at H
              exact absurd H (by simp)
      · rw [if_neg c3] at H
        have c3b0 : decide (x1_1 < (a0.size : Int)) = false := decide_eq_false c3
        clear c3
        simp only [Option.some.injEq, Prod.mk.injEq] at H
        obtain ⟨rfl, rfl⟩ := H
        go_wp2
        go_ret2
        exact ⟨by first | rfl | (simp; done) | (simp [*]; done), by repeat (first | exact Drawn0.refl _ | apply Drawn0.step)⟩

/-! ### sigilref4_letter: function 77 -/
def sigilref4_letter.f (a0 : Int) : Option (Bool) := if a0 ≥ 65 then (if a0 ≤ 90 then (some true) else (if a0 ≥ 97 then (if a0 ≤ 122 then (some true) else (some (a0 == 95))) else (some (a0 == 95)))) else (if a0 ≥ 97 then (if a0 ≤ 122 then (some true) else (some (a0 == 95))) else (some (a0 == 95)))
set_option maxHeartbeats 8000000 in
set_option maxRecDepth 100000 in
theorem sigilref4_letter.calls (a0 : Int) (r : Bool) (w : World) (h : sigilref4_letter.f a0 = some r) :
    Calls Tryd.prog 77 #[.int .u8 a0] w fun e w' => e = .returned (.bool r) ∧ Drawn0 w w' := by
  have H : (if a0 ≥ 65 then (if a0 ≤ 90 then (some true) else (if a0 ≥ 97 then (if a0 ≤ 122 then (some true) else (some (a0 == 95))) else (some (a0 == 95)))) else (if a0 ≥ 97 then (if a0 ≤ 122 then (some true) else (some (a0 == 95))) else (some (a0 == 95)))) = some r := h
  clear h
  by_cases c2 : a0 ≥ 65
  · rw [if_pos c2] at H
    have c2b0 : decide (65 ≤ a0) = true := decide_eq_true c2
    clear c2
    by_cases c3 : a0 ≤ 90
    · rw [if_pos c3] at H
      have c3b0 : decide (a0 ≤ 90) = true := decide_eq_true c3
      clear c3
      obtain rfl := Option.some.inj H
      go_enter Tryd.func77, Tryd.ntmps77
      go_wp2
      go_ret
      exact ⟨by first | rfl | (simp; done) | (simp [*]; done), by repeat (first | exact Drawn0.refl _ | apply Drawn0.step)⟩
    · rw [if_neg c3] at H
      have c3b0 : decide (a0 ≤ 90) = false := decide_eq_false c3
      clear c3
      by_cases c4 : a0 ≥ 97
      · rw [if_pos c4] at H
        have c4b0 : decide (97 ≤ a0) = true := decide_eq_true c4
        clear c4
        by_cases c5 : a0 ≤ 122
        · rw [if_pos c5] at H
          have c5b0 : decide (a0 ≤ 122) = true := decide_eq_true c5
          clear c5
          obtain rfl := Option.some.inj H
          go_enter Tryd.func77, Tryd.ntmps77
          go_wp2
          go_ret
          exact ⟨by first | rfl | (simp; done) | (simp [*]; done), by repeat (first | exact Drawn0.refl _ | apply Drawn0.step)⟩
        · rw [if_neg c5] at H
          have c5b0 : decide (a0 ≤ 122) = false := decide_eq_false c5
          clear c5
          obtain rfl := Option.some.inj H
          go_enter Tryd.func77, Tryd.ntmps77
          go_wp2
          go_ret
          exact ⟨by first | rfl | (simp; done) | (simp [*]; done), by repeat (first | exact Drawn0.refl _ | apply Drawn0.step)⟩
      · rw [if_neg c4] at H
        have c4b0 : decide (97 ≤ a0) = false := decide_eq_false c4
        clear c4
        obtain rfl := Option.some.inj H
        go_enter Tryd.func77, Tryd.ntmps77
        go_wp2
        go_ret
        exact ⟨by first | rfl | (simp; done) | (simp [*]; done), by repeat (first | exact Drawn0.refl _ | apply Drawn0.step)⟩
  · rw [if_neg c2] at H
    have c2b0 : decide (65 ≤ a0) = false := decide_eq_false c2
    clear c2
    by_cases c6 : a0 ≥ 97
    · rw [if_pos c6] at H
      have c6b0 : decide (97 ≤ a0) = true := decide_eq_true c6
      clear c6
      by_cases c7 : a0 ≤ 122
      · rw [if_pos c7] at H
        have c7b0 : decide (a0 ≤ 122) = true := decide_eq_true c7
        clear c7
        obtain rfl := Option.some.inj H
        go_enter Tryd.func77, Tryd.ntmps77
        go_wp2
        go_ret
        exact ⟨by first | rfl | (simp; done) | (simp [*]; done), by repeat (first | exact Drawn0.refl _ | apply Drawn0.step)⟩
      · rw [if_neg c7] at H
        have c7b0 : decide (a0 ≤ 122) = false := decide_eq_false c7
        clear c7
        obtain rfl := Option.some.inj H
        go_enter Tryd.func77, Tryd.ntmps77
        go_wp2
        go_ret
        exact ⟨by first | rfl | (simp; done) | (simp [*]; done), by repeat (first | exact Drawn0.refl _ | apply Drawn0.step)⟩
    · rw [if_neg c6] at H
      have c6b0 : decide (97 ≤ a0) = false := decide_eq_false c6
      clear c6
      obtain rfl := Option.some.inj H
      go_enter Tryd.func77, Tryd.ntmps77
      go_wp2
      go_ret
      exact ⟨by first | rfl | (simp; done) | (simp [*]; done), by repeat (first | exact Drawn0.refl _ | apply Drawn0.step)⟩

end Go.Proofs.YtabgnbbljjohdaaRDoor.A
