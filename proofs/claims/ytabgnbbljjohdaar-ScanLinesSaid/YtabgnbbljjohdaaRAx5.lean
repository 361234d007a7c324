-- THIS SESSION'S TEXT: written by plugprint.py out of the translation, with contracts proved by hand.
import Derived.Test.YtabgnbbljjohdaaRAx0
import Derived.Test.YtabgnbbljjohdaaRAx4
namespace Go.Proofs.YtabgnbbljjohdaaR.A
open Go.RowKit Go.Proofs.YtabgnbbljjohdaaRW.PrintWords Go.Proofs.YtabgnbbljjohdaaRW.PrintLast Go.Proofs.YtabgnbbljjohdaaRW.PrintMore
attribute [local go_sem] max2_int min2_int max_two min_two max_three min_three max_four min_four   -- for this text's walks alone
set_option linter.unusedVariables false
set_option linter.unusedSimpArgs false

/-! ### scan_Line: function 13 -/
def scan_Line.j0 : Nat → ByteArray → Int → Bool → Option (Int × Int × Int)
  | 0, _, _, _ => none
  | k + 1, x0, x1, x18 => if x18 = true then (some (0, 0, 46)) else (if 0 ≤ x1 then (if x1 ≤ (x0.size : Int) then ((strings_Count.f (x0.extract 0 (x1 : Int).toNat) (⟨#[10]⟩ : ByteArray)).bind fun t128 => ((strings_LastIndexByte.f (x0.extract 0 (x1 : Int).toNat) 10).bind fun t129 => (some (wrap64 (t128 + 1), wrap64 (x1 - t129), 0)))) else (none)) else (none))
def scan_Line.f (k : Nat) (a0 : ByteArray) (a1 : Int) : Option (Int × Int × Int) := if (a0.size : Int) > 65536 then (some (0, 0, 2)) else (if a1 < 0 then (scan_Line.j0 k a0 a1 true) else (scan_Line.j0 k a0 a1 (decide (a1 > (a0.size : Int)))))
theorem scan_Line.mono_l : ∀ k, (∀ y0 y1 y2, LeO (scan_Line.j0 k y0 y1 y2) (scan_Line.j0 (k + 1) y0 y1 y2))
  | 0 => fun _ _ _ r h => by simp [scan_Line.j0] at h
  | k + 1 => by
    have ih0 := scan_Line.mono_l k
    · intro y0 y1 y2
      unfold scan_Line.j0
      repeat' first
      | (with_reducible exact ih0 _ _ _)
      | (with_reducible exact LeO.refl _)
      | (with_reducible exact LeO.none _)
      | (with_reducible refine LeO.ite ?_ ?_)
      | (with_reducible refine LeO.bind ?_ (fun _ => ?_))
      | exact ih0 _ _ _
      | exact LeO.none _
      | refine LeO.ite ?_ ?_
      | refine LeO.bind ?_ (fun _ => ?_)
theorem scan_Line.mono : ∀ a0 a1 k, LeO (scan_Line.f k a0 a1) (scan_Line.f (k + 1) a0 a1) := by
  intro a0 a1 k
  have ih0 := scan_Line.mono_l k
  unfold scan_Line.f
  repeat' first
      | (with_reducible exact ih0 _ _ _)
      | (with_reducible exact LeO.refl _)
      | (with_reducible exact LeO.none _)
      | (with_reducible refine LeO.ite ?_ ?_)
      | (with_reducible refine LeO.bind ?_ (fun _ => ?_))
      | exact ih0 _ _ _
      | exact LeO.none _
      | refine LeO.ite ?_ ?_
      | refine LeO.bind ?_ (fun _ => ?_)
set_option maxHeartbeats 8000000 in
set_option maxRecDepth 100000 in
theorem scan_Line.calls (k : Nat) (a0 : ByteArray) (a1 : Int) (r1 : Int) (r2 : Int) (r3 : Int) (w : World) (h : scan_Line.f k a0 a1 = some (r1, r2, r3)) :
    Calls Try.prog 13 #[.string a0, .int .i64 a1] w fun e w' => e = .returned (.tuple #[.int .i64 r1, .int .i64 r2, .int .i64 r3]) ∧ Drawn0 w w' := by
  have H : (if (a0.size : Int) > 65536 then (some (0, 0, 2)) else (if a1 < 0 then (scan_Line.j0 k a0 a1 true) else (scan_Line.j0 k a0 a1 (decide (a1 > (a0.size : Int)))))) = some (r1, r2, r3) := h
  clear h
  by_cases c3 : (a0.size : Int) > 65536
  · rw [if_pos c3] at H
    have c3b0 : decide (65536 < (a0.size : Int)) = true := decide_eq_true c3
    have c3b1 : decide (65536 < a0.size) = true := decide_eq_true (by omega)
    clear c3
    simp only [Option.some.injEq, Prod.mk.injEq] at H
    obtain ⟨rfl, rfl, rfl⟩ := H
    go_enter Try.func13, Try.ntmps13
    go_wp2
    go_ret3
    exact ⟨by first | rfl | (simp; done) | (simp [*]; done), by repeat (first | exact Drawn0.refl _ | apply Drawn0.step)⟩
  · rw [if_neg c3] at H
    have c3b0 : decide (65536 < (a0.size : Int)) = false := decide_eq_false c3
    have c3b1 : decide (65536 < a0.size) = false := decide_eq_false (by omega)
    clear c3
    have HC4 := Aside0.mk H
    clear H
    go_enter Try.func13, Try.ntmps13
    go_upto_region 3 with (fail)
    go_cut [18] (fun v18 wc => ∃ (kq : Nat) (x18_3 : Bool), v18 = .bool x18_3 ∧ Aside0 (scan_Line.j0 kq a0 a1 x18_3 = some (r1, r2, r3)) ∧ Aside0 (kq ≤ k) ∧ Drawn0 w wc)
    case first =>
      have H := HC4.out
      clear HC4
      by_cases c5 : a1 < 0
      · rw [if_pos c5] at H
        have c5b0 : decide (a1 < 0) = true := decide_eq_true c5
        clear c5
        (first | rw [c5b0] | (simp only [i64_w, i32_w]; rw [c5b0]) | skip)
        have H' := Aside0.mk H
        clear H
        go_wp2
        go_meet
        case rel => exact ⟨_, (true), (by first | rfl | (simp; done) | (simp [*]; done)), H', ⟨by first | omega | exact Nat.le_refl _⟩, by repeat (first | exact Drawn0.refl _ | apply Drawn0.step)⟩
      · rw [if_neg c5] at H
        have c5b0 : decide (a1 < 0) = false := decide_eq_false c5
        clear c5
        (first | rw [c5b0] | (simp only [i64_w, i32_w]; rw [c5b0]) | skip)
        have H' := Aside0.mk H
        clear H
        go_wp2
        go_meet
        case rel => exact ⟨_, (decide (a1 > (a0.size : Int))), (by first | rfl | (simp; done) | (simp [*]; done)), H', ⟨by first | omega | exact Nat.le_refl _⟩, by repeat (first | exact Drawn0.refl _ | apply Drawn0.step)⟩
    case rest =>
      clear HC4
      try clear c1
      try clear p2
      try clear c3
      try clear c3b0
      try clear c3b1
      try clear c5
      try clear c5b0
      obtain ⟨kq, x18_3, rfl, HA, HJ3, ⟨mc3, rfl⟩⟩ := hcut
      cases kq with
      | zero => exact absurd HA.out (by simp [scan_Line.j0])
      | succ kj3 =>
        have H := HA.out
        clear HA
        simp only [scan_Line.j0] at H
        by_cases c6 : x18_3 = true
        · subst c6
          have H1 : (some (0, 0, 46)) = some (r1, r2, r3) := by rw [if_pos rfl] at H; exact H
          clear H
          have H := H1
          clear H1
          simp only [Option.some.injEq, Prod.mk.injEq] at H
          obtain ⟨rfl, rfl, rfl⟩ := H
          go_wp2
          go_ret3
          exact ⟨by first | rfl | (simp; done) | (simp [*]; done), by repeat (first | exact Drawn0.refl _ | apply Drawn0.step)⟩
        · replace c6 := Bool.eq_false_iff.mpr c6
          subst c6
          have H1 : (if 0 ≤ a1 then (if a1 ≤ (a0.size : Int) then ((strings_Count.f (a0.extract 0 (a1 : Int).toNat) (⟨#[10]⟩ : ByteArray)).bind fun t128 => ((strings_LastIndexByte.f (a0.extract 0 (a1 : Int).toNat) 10).bind fun t129 => (some (wrap64 (t128 + 1), wrap64 (a1 - t129), 0)))) else (none)) else (none)) = some (r1, r2, r3) := by rw [if_neg (show ¬ (false = true) by decide)] at H; exact H
          clear H
          have H := H1
          clear H1
          by_cases c7 : 0 ≤ a1
          · rw [if_pos c7] at H
            have c7b0 := eq_true c7
            have c7b1 : decide (0 ≤ a1) = true := decide_eq_true c7
            clear c7
            by_cases c8 : a1 ≤ (a0.size : Int)
            · rw [if_pos c8] at H
              have c8b0 := eq_true c8
              have c8b1 : decide (a1 ≤ (a0.size : Int)) = true := decide_eq_true c8
              clear c8
              replace H := Option.bind_eq_some_iff.mp H
              obtain ⟨t128, A90, H⟩ := H
              replace H : ((strings_LastIndexByte.f (a0.extract 0 (a1 : Int).toNat) 10).bind fun t129 => (some (wrap64 (t128 + 1), wrap64 (a1 - t129), 0))) = some (r1, r2, r3) := H
              have A9 := Aside0.mk A90
              clear A90
              replace H := Option.bind_eq_some_iff.mp H
              obtain ⟨t129, A100, H⟩ := H
              replace H : (some (wrap64 (t128 + 1), wrap64 (a1 - t129), 0)) = some (r1, r2, r3) := H
              have A10 := Aside0.mk A100
              clear A100
              simp only [Option.some.injEq, Prod.mk.injEq] at H
              obtain ⟨rfl, rfl, rfl⟩ := H
              go_wp2_with (first | ((with_reducible refine gate_callee (f := 21) rfl ?_); refine goesL_ (some 23) rfl rfl Try.func21 (by kernel_rfl) rfl #[.string (a0.extract 0 (a1 : Int).toNat), .string (⟨#[10]⟩ : ByteArray)] rfl (by (try simp only [List.map_toArray, List.map_cons, List.map_nil]); first | done | rfl | (simp only [List.length_drop, List.length_take]; rfl)) ?_; (with_reducible refine (strings_Count.calls (a0.extract 0 (a1 : Int).toNat) (⟨#[10]⟩ : ByteArray) t128 _ A9.out).mono ?_); rintro e w' ⟨rfl, ⟨nd, rfl⟩⟩; refine ⟨_, rfl, ?_⟩) | ((with_reducible refine gate_callee (f := 22) rfl ?_); refine goesL_ (some 27) rfl rfl Try.func22 (by kernel_rfl) rfl #[.string (a0.extract 0 (a1 : Int).toNat), .int .u8 10] rfl (by (try simp only [List.map_toArray, List.map_cons, List.map_nil]); first | done | rfl | (simp only [List.length_drop, List.length_take]; rfl)) ?_; (with_reducible refine (strings_LastIndexByte.calls (a0.extract 0 (a1 : Int).toNat) 10 t129 _ A10.out).mono ?_); rintro e w' ⟨rfl, ⟨nd, rfl⟩⟩; refine ⟨_, rfl, ?_⟩))
              go_ret3
              exact ⟨by first | rfl | (simp; done) | (simp [*]; done), by repeat (first | exact Drawn0.refl _ | apply Drawn0.step)⟩
            · rw [if_neg c8] at H
              exact absurd H (by simp)
          · rw [if_neg c7] at H
            exact absurd H (by simp)

/-! ### sigilref4_Line: function 14 -/
mutual
def sigilref4_Line.j0 : Nat → ByteArray → Int → Bool → Option (Int × Int × Int)
  | 0, _, _, _ => none
  | k + 1, x0, x1, x20 => if x20 = true then (some (0, 0, 46)) else (sigilref4_Line.l0 k x0 x1 1 1 0)
def sigilref4_Line.l0 : Nat → ByteArray → Int → Int → Int → Int → Option (Int × Int × Int)
  | 0, _, _, _, _, _ => none
  | k + 1, x0, x1, x7, x8, x9 => if x9 < x1 then (if 0 ≤ x9 then (if x9 < (x0.size : Int) then (if (bt x0 x9) = 10 then (sigilref4_Line.l0 k x0 x1 (wrap64 (x7 + 1)) 1 (wrap64 (x9 + 1))) else (sigilref4_Line.l0 k x0 x1 x7 (wrap64 (x8 + 1)) (wrap64 (x9 + 1)))) else (none)) else (none)) else (some (x7, x8, 0))
end
def sigilref4_Line.f (k : Nat) (a0 : ByteArray) (a1 : Int) : Option (Int × Int × Int) := if (a0.size : Int) > 65536 then (some (0, 0, 2)) else (if a1 < 0 then (sigilref4_Line.j0 k a0 a1 true) else (sigilref4_Line.j0 k a0 a1 (decide (a1 > (a0.size : Int)))))
theorem sigilref4_Line.mono_l : ∀ k, (∀ y0 y1 y2, LeO (sigilref4_Line.j0 k y0 y1 y2) (sigilref4_Line.j0 (k + 1) y0 y1 y2)) ∧ (∀ y0 y1 y2 y3 y4, LeO (sigilref4_Line.l0 k y0 y1 y2 y3 y4) (sigilref4_Line.l0 (k + 1) y0 y1 y2 y3 y4))
  | 0 => ⟨fun _ _ _ r h => by simp [sigilref4_Line.j0] at h, fun _ _ _ _ _ r h => by simp [sigilref4_Line.l0] at h⟩
  | k + 1 => by
    obtain ⟨ih0, ih1⟩ := sigilref4_Line.mono_l k
    refine ⟨?_, ?_⟩
    · intro y0 y1 y2
      unfold sigilref4_Line.j0
      repeat' first
      | (with_reducible exact ih0 _ _ _)
      | (with_reducible exact ih1 _ _ _ _ _)
      | (with_reducible exact LeO.refl _)
      | (with_reducible exact LeO.none _)
      | (with_reducible refine LeO.ite ?_ ?_)
      | (with_reducible refine LeO.bind ?_ (fun _ => ?_))
      | exact ih0 _ _ _
      | exact ih1 _ _ _ _ _
      | exact LeO.none _
      | refine LeO.ite ?_ ?_
      | refine LeO.bind ?_ (fun _ => ?_)
    · intro y0 y1 y2 y3 y4
      unfold sigilref4_Line.l0
      repeat' first
      | (with_reducible exact ih0 _ _ _)
      | (with_reducible exact ih1 _ _ _ _ _)
      | (with_reducible exact LeO.refl _)
      | (with_reducible exact LeO.none _)
      | (with_reducible refine LeO.ite ?_ ?_)
      | (with_reducible refine LeO.bind ?_ (fun _ => ?_))
      | exact ih0 _ _ _
      | exact ih1 _ _ _ _ _
      | exact LeO.none _
      | refine LeO.ite ?_ ?_
      | refine LeO.bind ?_ (fun _ => ?_)
theorem sigilref4_Line.mono : ∀ a0 a1 k, LeO (sigilref4_Line.f k a0 a1) (sigilref4_Line.f (k + 1) a0 a1) := by
  intro a0 a1 k
  obtain ⟨ih0, ih1⟩ := sigilref4_Line.mono_l k
  unfold sigilref4_Line.f
  repeat' first
      | (with_reducible exact ih0 _ _ _)
      | (with_reducible exact ih1 _ _ _ _ _)
      | (with_reducible exact LeO.refl _)
      | (with_reducible exact LeO.none _)
      | (with_reducible refine LeO.ite ?_ ?_)
      | (with_reducible refine LeO.bind ?_ (fun _ => ?_))
      | exact ih0 _ _ _
      | exact ih1 _ _ _ _ _
      | exact LeO.none _
      | refine LeO.ite ?_ ?_
      | refine LeO.bind ?_ (fun _ => ?_)
set_option maxHeartbeats 8000000 in
set_option maxRecDepth 100000 in
theorem sigilref4_Line.calls (k : Nat) (a0 : ByteArray) (a1 : Int) (r1 : Int) (r2 : Int) (r3 : Int) (w : World) (h : sigilref4_Line.f k a0 a1 = some (r1, r2, r3)) :
    Calls Try.prog 14 #[.string a0, .int .i64 a1] w fun e w' => e = .returned (.tuple #[.int .i64 r1, .int .i64 r2, .int .i64 r3]) ∧ Drawn0 w w' := by
  have H : (if (a0.size : Int) > 65536 then (some (0, 0, 2)) else (if a1 < 0 then (sigilref4_Line.j0 k a0 a1 true) else (sigilref4_Line.j0 k a0 a1 (decide (a1 > (a0.size : Int)))))) = some (r1, r2, r3) := h
  clear h
  by_cases c3 : (a0.size : Int) > 65536
  · rw [if_pos c3] at H
    have c3b0 : decide (65536 < (a0.size : Int)) = true := decide_eq_true c3
    have c3b1 : decide (65536 < a0.size) = true := decide_eq_true (by omega)
    clear c3
    simp only [Option.some.injEq, Prod.mk.injEq] at H
    obtain ⟨rfl, rfl, rfl⟩ := H
    go_enter Try.func14, Try.ntmps14
    go_wp2
    go_ret3
    exact ⟨by first | rfl | (simp; done) | (simp [*]; done), by repeat (first | exact Drawn0.refl _ | apply Drawn0.step)⟩
  · rw [if_neg c3] at H
    have c3b0 : decide (65536 < (a0.size : Int)) = false := decide_eq_false c3
    have c3b1 : decide (65536 < a0.size) = false := decide_eq_false (by omega)
    clear c3
    have HC4 := Aside0.mk H
    clear H
    go_enter Try.func14, Try.ntmps14
    go_upto_region 3 with (fail)
    go_cut [20] (fun v20 wc => ∃ (kq : Nat) (x20_3 : Bool), v20 = .bool x20_3 ∧ Aside0 (sigilref4_Line.j0 kq a0 a1 x20_3 = some (r1, r2, r3)) ∧ Aside0 (kq ≤ k) ∧ Drawn0 w wc)
    case first =>
      have H := HC4.out
      clear HC4
      by_cases c5 : a1 < 0
      · rw [if_pos c5] at H
        have c5b0 : decide (a1 < 0) = true := decide_eq_true c5
        clear c5
        (first | rw [c5b0] | (simp only [i64_w, i32_w]; rw [c5b0]) | skip)
        have H' := Aside0.mk H
        clear H
        go_wp2
        go_meet
        case rel => exact ⟨_, (true), (by first | rfl | (simp; done) | (simp [*]; done)), H', ⟨by first | omega | exact Nat.le_refl _⟩, by repeat (first | exact Drawn0.refl _ | apply Drawn0.step)⟩
      · rw [if_neg c5] at H
        have c5b0 : decide (a1 < 0) = false := decide_eq_false c5
        clear c5
        (first | rw [c5b0] | (simp only [i64_w, i32_w]; rw [c5b0]) | skip)
        have H' := Aside0.mk H
        clear H
        go_wp2
        go_meet
        case rel => exact ⟨_, (decide (a1 > (a0.size : Int))), (by first | rfl | (simp; done) | (simp [*]; done)), H', ⟨by first | omega | exact Nat.le_refl _⟩, by repeat (first | exact Drawn0.refl _ | apply Drawn0.step)⟩
    case rest =>
      clear HC4
      try clear c1
      try clear p2
      try clear c3
      try clear c3b0
      try clear c3b1
      try clear c5
      try clear c5b0
      obtain ⟨kq, x20_3, rfl, HA, HJ3, ⟨mc3, rfl⟩⟩ := hcut
      cases kq with
      | zero => exact absurd HA.out (by simp [sigilref4_Line.j0])
      | succ kj3 =>
        have H := HA.out
        clear HA
        simp only [sigilref4_Line.j0] at H
        by_cases c6 : x20_3 = true
        · subst c6
          have H1 : (some (0, 0, 46)) = some (r1, r2, r3) := by rw [if_pos rfl] at H; exact H
          clear H
          have H := H1
          clear H1
          simp only [Option.some.injEq, Prod.mk.injEq] at H
          obtain ⟨rfl, rfl, rfl⟩ := H
          go_wp2
          go_ret3
          exact ⟨by first | rfl | (simp; done) | (simp [*]; done), by repeat (first | exact Drawn0.refl _ | apply Drawn0.step)⟩
        · replace c6 := Bool.eq_false_iff.mpr c6
          subst c6
          have H1 : (sigilref4_Line.l0 kj3 a0 a1 1 1 0) = some (r1, r2, r3) := by rw [if_neg (show ¬ (false = true) by decide)] at H; exact H
          clear H
          have H := H1
          clear H1
          have H' := Aside0.mk H
          clear H
          go_wp2
          go_loopg [7, 8, 9] kj3 (fun kq v7 v8 v9 w' => ∃ (x7_2 : Int) (x8_2 : Int) (x9_2 : Int), v7 = .int .i64 x7_2 ∧ v8 = .int .i64 x8_2 ∧ v9 = .int .i64 x9_2 ∧ Aside0 (sigilref4_Line.l0 kq a0 a1 x7_2 x8_2 x9_2 = some (r1, r2, r3)) ∧ Aside0 (kq ≤ kj3) ∧ Drawn0 w w')
          case atStart => exact ⟨(1), (1), (0), (by first | rfl | (simp; done) | (simp [*]; done)), (by first | rfl | (simp; done) | (simp [*]; done)), (by first | rfl | (simp; done) | (simp [*]; done)), H', ⟨Nat.le_refl _⟩, by repeat (first | exact Drawn0.refl _ | apply Drawn0.step)⟩
          case round =>
            clear H'
            try clear c1
            try clear p2
            try clear c3
            try clear c3b0
            try clear c3b1
            try clear c5
            try clear c5b0
            try clear c6
            try clear p2
            obtain ⟨x7_2, x8_2, x9_2, rfl, rfl, rfl, HA, HK2, ⟨m2, rfl⟩⟩ := hrel
            cases gk with
            | zero => exact absurd HA.out (by simp [sigilref4_Line.l0])
            | succ k2 =>
              have H := HA.out
              clear HA
              simp only [sigilref4_Line.l0] at H
              by_cases c7 : x9_2 < a1
              · rw [if_pos c7] at H
                have c7b0 : decide (x9_2 < a1) = true := decide_eq_true c7
                clear c7
                by_cases c8 : 0 ≤ x9_2
                · rw [if_pos c8] at H
                  have c8b0 : decide (0 ≤ x9_2) = true := decide_eq_true c8
                  clear c8
                  by_cases c9 : x9_2 < (a0.size : Int)
                  · rw [if_pos c9] at H
                    have c9b0 : decide (x9_2 < (a0.size : Int)) = true := decide_eq_true c9
                    clear c9
                    by_cases c11 : (bt a0 x9_2) = 10
                    · rw [if_pos c11] at H
                      have c11b0 : ((bt a0 x9_2) == 10) = true := beq_iff_eq.mpr c11
                      have c11b1 : ((bt a0 x9_2) != 10) = false := bne_eq_false_iff_eq.mpr c11
                      clear c11
                      have H' := Aside0.mk H
                      clear H
                      have p10 : 0 ≤ (x9_2 : Int) := of_decide_eq_true (by first | (with_reducible assumption) | assumption)
                      have q10 : x9_2 < (a0.size : Int) := of_decide_eq_true (by first | (with_reducible assumption) | assumption)
                      have hx10 := bt_at a0 x9_2
                      replace p10 := eq_true p10
                      replace q10 := eq_true q10
                      go_wp2
                      go_roundg k2
                      case measure => have := HJ3.out; have := HK2.out; omega
                      case rel => exact ⟨(wrap64 (x7_2 + 1)), (1), (wrap64 (x9_2 + 1)), (by first | rfl | (simp; done) | (simp [*]; done)), (by first | rfl | (simp; done) | (simp [*]; done)), (by first | rfl | (simp; done) | (simp [*]; done)), H', ⟨by have := HJ3.out; have := HK2.out; omega⟩, by repeat (first | exact Drawn0.refl _ | apply Drawn0.step)⟩
                    · rw [if_neg c11] at H
                      have c11b0 : ((bt a0 x9_2) == 10) = false := beq_eq_false_iff_ne.mpr c11
                      have c11b1 : ((bt a0 x9_2) != 10) = true := bne_iff_ne.mpr c11
                      have H' := Aside0.mk H
                      clear H
                      have p10 : 0 ≤ (x9_2 : Int) := of_decide_eq_true (by first | (with_reducible assumption) | assumption)
                      have q10 : x9_2 < (a0.size : Int) := of_decide_eq_true (by first | (with_reducible assumption) | assumption)
                      have hx10 := bt_at a0 x9_2
                      replace p10 := eq_true p10
                      replace q10 := eq_true q10
                      go_wp2
                      go_roundg k2
                      case measure => have := HJ3.out; have := HK2.out; omega
                      case rel => exact ⟨(x7_2), (wrap64 (x8_2 + 1)), (wrap64 (x9_2 + 1)), (by first | rfl | (simp; done) | (simp [*]; done)), (by first | rfl | (simp; done) | (simp [*]; done)), (by first | rfl | (simp; done) | (simp [*]; done)), H', ⟨by have := HJ3.out; have := HK2.out; omega⟩, by repeat (first | exact Drawn0.refl _ | apply Drawn0.step)⟩
                  · rw [if_neg c9] at H
                    exact absurd H (by simp)
                · rw [if_neg c8] at H
                  exact absurd H (by simp)
              · rw [if_neg c7] at H
                have c7b0 : decide (x9_2 < a1) = false := decide_eq_false c7
                clear c7
                simp only [Option.some.injEq, Prod.mk.injEq] at H
                obtain ⟨rfl, rfl, rfl⟩ := H
                go_wp2
                go_ret3
                exact ⟨by first | rfl | (simp; done) | (simp [*]; done), by repeat (first | exact Drawn0.refl _ | apply Drawn0.step)⟩

/-! ### sigillaw4_ScanLines: function 8 -/
mutual
def sigillaw4_ScanLines.j0 : Nat → ByteArray → List Int → Bool → Option (Bool)
  | 0, _, _, _ => none
  | k + 1, x0, x1, x29 => if x29 = true then (some false) else (sigillaw4_ScanLines.l0 k x0 x1 0)
def sigillaw4_ScanLines.l0 : Nat → ByteArray → List Int → Int → Option (Bool)
  | 0, _, _, _ => none
  | k + 1, x0, x1, x8 => if x8 < (x1.length : Int) then (if 0 ≤ x8 then ((scan_Line.f k x0 (rd x1 x8)).bind fun bt134 => ((sigilref4_Line.f k x0 (rd x1 x8)).bind fun bt138 => (if bt134.1 = bt138.1 then (if bt134.2.1 = bt138.2.1 then (if bt134.2.2 = bt138.2.2 then (sigillaw4_ScanLines.l0 k x0 x1 (wrap64 (x8 + 1))) else (some false)) else (some false)) else (some false)))) else (none)) else (some true)
end
def sigillaw4_ScanLines.f (k : Nat) (a0 : ByteArray) (l1 : List Int) : Option (Bool) := (scan_Line.f k (⟨#[97, 10, 98, 99]⟩ : ByteArray) 3).bind fun bt130 => (if bt130.1 = 2 then (if bt130.2.1 = 2 then (sigillaw4_ScanLines.j0 k a0 l1 (bt130.2.2 != 0)) else (sigillaw4_ScanLines.j0 k a0 l1 true)) else (sigillaw4_ScanLines.j0 k a0 l1 true))
theorem sigillaw4_ScanLines.mono_l : ∀ k, (∀ y0 y1 y2, LeO (sigillaw4_ScanLines.j0 k y0 y1 y2) (sigillaw4_ScanLines.j0 (k + 1) y0 y1 y2)) ∧ (∀ y0 y1 y2, LeO (sigillaw4_ScanLines.l0 k y0 y1 y2) (sigillaw4_ScanLines.l0 (k + 1) y0 y1 y2))
  | 0 => ⟨fun _ _ _ r h => by simp [sigillaw4_ScanLines.j0] at h, fun _ _ _ r h => by simp [sigillaw4_ScanLines.l0] at h⟩
  | k + 1 => by
    obtain ⟨ih0, ih1⟩ := sigillaw4_ScanLines.mono_l k
    refine ⟨?_, ?_⟩
    · intro y0 y1 y2
      unfold sigillaw4_ScanLines.j0
      repeat' first
      | (with_reducible exact ih0 _ _ _)
      | (with_reducible exact ih1 _ _ _)
      | (with_reducible exact scan_Line.mono _ _ _)
      | (with_reducible exact sigilref4_Line.mono _ _ _)
      | (with_reducible exact LeO.refl _)
      | (with_reducible exact LeO.none _)
      | (with_reducible refine LeO.ite ?_ ?_)
      | (with_reducible refine LeO.bind ?_ (fun _ => ?_))
      | exact ih0 _ _ _
      | exact ih1 _ _ _
      | exact scan_Line.mono _ _ _
      | exact sigilref4_Line.mono _ _ _
      | exact LeO.none _
      | refine LeO.ite ?_ ?_
      | refine LeO.bind ?_ (fun _ => ?_)
    · intro y0 y1 y2
      unfold sigillaw4_ScanLines.l0
      repeat' first
      | (with_reducible exact ih0 _ _ _)
      | (with_reducible exact ih1 _ _ _)
      | (with_reducible exact scan_Line.mono _ _ _)
      | (with_reducible exact sigilref4_Line.mono _ _ _)
      | (with_reducible exact LeO.refl _)
      | (with_reducible exact LeO.none _)
      | (with_reducible refine LeO.ite ?_ ?_)
      | (with_reducible refine LeO.bind ?_ (fun _ => ?_))
      | exact ih0 _ _ _
      | exact ih1 _ _ _
      | exact scan_Line.mono _ _ _
      | exact sigilref4_Line.mono _ _ _
      | exact LeO.none _
      | refine LeO.ite ?_ ?_
      | refine LeO.bind ?_ (fun _ => ?_)
theorem sigillaw4_ScanLines.mono : ∀ a0 a1 k, LeO (sigillaw4_ScanLines.f k a0 a1) (sigillaw4_ScanLines.f (k + 1) a0 a1) := by
  intro a0 a1 k
  obtain ⟨ih0, ih1⟩ := sigillaw4_ScanLines.mono_l k
  unfold sigillaw4_ScanLines.f
  repeat' first
      | (with_reducible exact ih0 _ _ _)
      | (with_reducible exact ih1 _ _ _)
      | (with_reducible exact scan_Line.mono _ _ _)
      | (with_reducible exact sigilref4_Line.mono _ _ _)
      | (with_reducible exact LeO.refl _)
      | (with_reducible exact LeO.none _)
      | (with_reducible refine LeO.ite ?_ ?_)
      | (with_reducible refine LeO.bind ?_ (fun _ => ?_))
      | exact ih0 _ _ _
      | exact ih1 _ _ _
      | exact scan_Line.mono _ _ _
      | exact sigilref4_Line.mono _ _ _
      | exact LeO.none _
      | refine LeO.ite ?_ ?_
      | refine LeO.bind ?_ (fun _ => ?_)
set_option maxHeartbeats 8000000 in
set_option maxRecDepth 100000 in
theorem sigillaw4_ScanLines.calls (k : Nat) (a0 : ByteArray) (A1 : Option Addr) (c1 : Nat) (l1 : List Int) (r : Bool) (w : World) (hr1 : Kd.C (Kd.int .i64) w A1 l1.length l1) (hc1 : l1.length ≤ c1) (h : sigillaw4_ScanLines.f k a0 l1 = some r) :
    Calls Try.prog 8 #[.string a0, .slice A1 l1.length c1] w fun e w' => e = .returned (.bool r) ∧ Drawn0 w w' := by
  have HR1 := Aside0.mk hr1
  have HC1 := Aside0.mk hc1
  clear hr1 hc1
  have H : ((scan_Line.f k (⟨#[97, 10, 98, 99]⟩ : ByteArray) 3).bind fun bt130 => (if bt130.1 = 2 then (if bt130.2.1 = 2 then (sigillaw4_ScanLines.j0 k a0 l1 (bt130.2.2 != 0)) else (sigillaw4_ScanLines.j0 k a0 l1 true)) else (sigillaw4_ScanLines.j0 k a0 l1 true))) = some r := h
  clear h
  replace H := Option.bind_eq_some_iff.mp H
  obtain ⟨⟨t130, t131, t132⟩, A30, H⟩ := H
  replace H : (if t130 = 2 then (if t131 = 2 then (sigillaw4_ScanLines.j0 k a0 l1 (t132 != 0)) else (sigillaw4_ScanLines.j0 k a0 l1 true)) else (sigillaw4_ScanLines.j0 k a0 l1 true)) = some r := H
  have A3 := Aside0.mk A30
  clear A30
  have HC4 := Aside0.mk H
  clear H
  go_enter Try.func8, Try.ntmps8
  go_upto_region 2 with (first | ((with_reducible refine gate_callee (f := 13) rfl ?_); refine goesL_ (some 16) rfl rfl Try.func13 (by kernel_rfl) rfl #[.string (⟨#[97, 10, 98, 99]⟩ : ByteArray), .int .i64 3] rfl (by (try simp only [List.map_toArray, List.map_cons, List.map_nil]); first | done | rfl | (simp only [List.length_drop, List.length_take]; rfl)) ?_; (with_reducible refine (scan_Line.calls k (⟨#[97, 10, 98, 99]⟩ : ByteArray) 3 t130 t131 t132 _ A3.out).mono ?_); rintro e w' ⟨rfl, ⟨nd, rfl⟩⟩; refine ⟨_, rfl, ?_⟩))
  (try simp only [Act.put, List.setIfInBounds_toArray, List.set_cons_zero, List.set_cons_succ])
  go_cut [29] (fun v29 wc => ∃ (kq : Nat) (x29_3 : Bool), v29 = .bool x29_3 ∧ Aside0 (sigillaw4_ScanLines.j0 kq a0 l1 x29_3 = some r) ∧ Aside0 (kq ≤ k) ∧ Drawn0 w wc)
  case first =>
    have H := HC4.out
    clear HC4
    by_cases c5 : t130 = 2
    · rw [if_pos c5] at H
      have c5b0 : (t130 == 2) = true := beq_iff_eq.mpr c5
      have c5b1 : (t130 != 2) = false := bne_eq_false_iff_eq.mpr c5
      clear c5
      (first | rw [c5b0] | (simp only [i64_w, i32_w]; rw [c5b0]) | skip)
      by_cases c6 : t131 = 2
      · rw [if_pos c6] at H
        have c6b0 : (t131 == 2) = true := beq_iff_eq.mpr c6
        have c6b1 : (t131 != 2) = false := bne_eq_false_iff_eq.mpr c6
        clear c6
        have H' := Aside0.mk H
        clear H
        go_wp2
        go_meet
        case rel => exact ⟨_, ((t132 != 0)), (by first | rfl | (simp; done) | (simp [*]; done)), H', ⟨by first | omega | exact Nat.le_refl _⟩, by repeat (first | exact Drawn0.refl _ | apply Drawn0.step)⟩
      · rw [if_neg c6] at H
        have c6b0 : (t131 == 2) = false := beq_eq_false_iff_ne.mpr c6
        have c6b1 : (t131 != 2) = true := bne_iff_ne.mpr c6
        have H' := Aside0.mk H
        clear H
        go_wp2
        go_meet
        case rel => exact ⟨_, (true), (by first | rfl | (simp; done) | (simp [*]; done)), H', ⟨by first | omega | exact Nat.le_refl _⟩, by repeat (first | exact Drawn0.refl _ | apply Drawn0.step)⟩
    · rw [if_neg c5] at H
      have c5b0 : (t130 == 2) = false := beq_eq_false_iff_ne.mpr c5
      have c5b1 : (t130 != 2) = true := bne_iff_ne.mpr c5
      (first | rw [c5b0] | (simp only [i64_w, i32_w]; rw [c5b0]) | skip)
      have H' := Aside0.mk H
      clear H
      go_wp2
      go_meet
      case rel => exact ⟨_, (true), (by first | rfl | (simp; done) | (simp [*]; done)), H', ⟨by first | omega | exact Nat.le_refl _⟩, by repeat (first | exact Drawn0.refl _ | apply Drawn0.step)⟩
  case rest =>
    clear HC4
    try clear c1
    try clear p2
    try clear c5
    try clear c5b0
    try clear c5b1
    try clear c6
    try clear c6b0
    try clear c6b1
    obtain ⟨kq, x29_3, rfl, HA, HJ3, ⟨mc3, rfl⟩⟩ := hcut
    cases kq with
    | zero => exact absurd HA.out (by simp [sigillaw4_ScanLines.j0])
    | succ kj3 =>
      have H := HA.out
      clear HA
      simp only [sigillaw4_ScanLines.j0] at H
      by_cases c7 : x29_3 = true
      · subst c7
        have H1 : (some false) = some r := by rw [if_pos rfl] at H; exact H
        clear H
        have H := H1
        clear H1
        obtain rfl := Option.some.inj H
        go_wp2
        go_ret
        exact ⟨by first | rfl | (simp; done) | (simp [*]; done), by repeat (first | exact Drawn0.refl _ | apply Drawn0.step)⟩
      · replace c7 := Bool.eq_false_iff.mpr c7
        subst c7
        have H1 : (sigillaw4_ScanLines.l0 kj3 a0 l1 0) = some r := by rw [if_neg (show ¬ (false = true) by decide)] at H; exact H
        clear H
        have H := H1
        clear H1
        have H' := Aside0.mk H
        clear H
        go_wp2
        go_loopg [8] kj3 (fun kq v8 w' => ∃ (x8_2 : Int), v8 = .int .i64 x8_2 ∧ Aside0 (sigillaw4_ScanLines.l0 kq a0 l1 x8_2 = some r) ∧ Aside0 (kq ≤ kj3) ∧ Drawn0 w w')
        case atStart => exact ⟨(0), (by first | rfl | (simp; done) | (simp [*]; done)), H', ⟨Nat.le_refl _⟩, by repeat (first | exact Drawn0.refl _ | apply Drawn0.step)⟩
        case round =>
          clear H'
          try clear c1
          try clear p2
          try clear c3
          try clear c5
          try clear c5b0
          try clear c5b1
          try clear c6
          try clear c6b0
          try clear c6b1
          try clear c7
          try clear p2
          obtain ⟨x8_2, rfl, HA, HK2, ⟨m2, rfl⟩⟩ := hrel
          cases gk with
          | zero => exact absurd HA.out (by simp [sigillaw4_ScanLines.l0])
          | succ k2 =>
            have H := HA.out
            clear HA
            simp only [sigillaw4_ScanLines.l0] at H
            by_cases c8 : x8_2 < (l1.length : Int)
            · rw [if_pos c8] at H
              have c8b0 : decide (x8_2 < (l1.length : Int)) = true := decide_eq_true c8
              clear c8
              by_cases c9 : 0 ≤ x8_2
              · rw [if_pos c9] at H
                have c9b0 : decide (0 ≤ x8_2) = true := decide_eq_true c9
                clear c9
                replace H := Option.bind_eq_some_iff.mp H
                obtain ⟨⟨t134, t135, t136⟩, A100, H⟩ := H
                replace H : ((sigilref4_Line.f k2 a0 (rd l1 x8_2)).bind fun bt138 => (if t134 = bt138.1 then (if t135 = bt138.2.1 then (if t136 = bt138.2.2 then (sigillaw4_ScanLines.l0 k2 a0 l1 (wrap64 (x8_2 + 1))) else (some false)) else (some false)) else (some false))) = some r := H
                have A10 := Aside0.mk A100
                clear A100
                replace H := Option.bind_eq_some_iff.mp H
                obtain ⟨⟨t138, t139, t140⟩, A110, H⟩ := H
                replace H : (if t134 = t138 then (if t135 = t139 then (if t136 = t140 then (sigillaw4_ScanLines.l0 k2 a0 l1 (wrap64 (x8_2 + 1))) else (some false)) else (some false)) else (some false)) = some r := H
                have A11 := Aside0.mk A110
                clear A110
                by_cases c12 : t134 = t138
                · rw [if_pos c12] at H
                  have c12b0 : (t134 == t138) = true := beq_iff_eq.mpr c12
                  have c12b1 : (t134 != t138) = false := bne_eq_false_iff_eq.mpr c12
                  clear c12
                  by_cases c13 : t135 = t139
                  · rw [if_pos c13] at H
                    have c13b0 : (t135 == t139) = true := beq_iff_eq.mpr c13
                    have c13b1 : (t135 != t139) = false := bne_eq_false_iff_eq.mpr c13
                    clear c13
                    by_cases c14 : t136 = t140
                    · rw [if_pos c14] at H
                      have c14b0 : (t136 == t140) = true := beq_iff_eq.mpr c14
                      have c14b1 : (t136 != t140) = false := bne_eq_false_iff_eq.mpr c14
                      clear c14
                      have H' := Aside0.mk H
                      clear H
                      have p133 : 0 ≤ (x8_2 : Int) := of_decide_eq_true (by first | (with_reducible assumption) | assumption)
                      have q133 : x8_2 < (l1.length : Int) := of_decide_eq_true (by first | (with_reducible assumption) | assumption)
                      obtain ⟨ad133, e133, hx133_0⟩ := Kd.at_int HR1.out x8_2 p133 q133
                      cases e133
                      replace p133 := eq_true p133
                      replace q133 := eq_true q133
                      go_wp2_with (first | ((with_reducible refine gate_callee (f := 13) rfl ?_); refine goesL_ (some 42) rfl rfl Try.func13 (by kernel_rfl) rfl #[.string a0, .int .i64 (rd l1 x8_2)] rfl (by (try simp only [List.map_toArray, List.map_cons, List.map_nil]); first | done | rfl | (simp only [List.length_drop, List.length_take]; rfl)) ?_; (with_reducible refine (scan_Line.calls k2 a0 (rd l1 x8_2) t134 t135 t136 _ A10.out).mono ?_); rintro e w' ⟨rfl, ⟨nd, rfl⟩⟩; refine ⟨_, rfl, ?_⟩; have p137 : 0 ≤ (x8_2 : Int) := of_decide_eq_true (by first | (with_reducible assumption) | assumption); have q137 : x8_2 < (l1.length : Int) := of_decide_eq_true (by first | (with_reducible assumption) | assumption); obtain ⟨ad137, e137, hx137_0⟩ := Kd.at_int HR1.out x8_2 p137 q137; obtain rfl : ad133 = ad137 := (by injection e137); replace p137 := eq_true p137; replace q137 := eq_true q137) | ((with_reducible refine gate_callee (f := 14) rfl ?_); refine goesL_ (some 52) rfl rfl Try.func14 (by kernel_rfl) rfl #[.string a0, .int .i64 (rd l1 x8_2)] rfl (by (try simp only [List.map_toArray, List.map_cons, List.map_nil]); first | done | rfl | (simp only [List.length_drop, List.length_take]; rfl)) ?_; (with_reducible refine (sigilref4_Line.calls k2 a0 (rd l1 x8_2) t138 t139 t140 _ A11.out).mono ?_); rintro e w' ⟨rfl, ⟨nd, rfl⟩⟩; refine ⟨_, rfl, ?_⟩))
                      go_roundg k2
                      case measure => have := HJ3.out; have := HK2.out; omega
                      case rel => exact ⟨(wrap64 (x8_2 + 1)), (by first | rfl | (simp; done) | (simp [*]; done)), H', ⟨by have := HJ3.out; have := HK2.out; omega⟩, by repeat (first | exact Drawn0.refl _ | apply Drawn0.step)⟩
                    · rw [if_neg c14] at H
                      have c14b0 : (t136 == t140) = false := beq_eq_false_iff_ne.mpr c14
                      have c14b1 : (t136 != t140) = true := bne_iff_ne.mpr c14
                      obtain rfl := Option.some.inj H
                      have p133 : 0 ≤ (x8_2 : Int) := of_decide_eq_true (by first | (with_reducible assumption) | assumption)
                      have q133 : x8_2 < (l1.length : Int) := of_decide_eq_true (by first | (with_reducible assumption) | assumption)
                      obtain ⟨ad133, e133, hx133_0⟩ := Kd.at_int HR1.out x8_2 p133 q133
                      cases e133
                      replace p133 := eq_true p133
                      replace q133 := eq_true q133
                      go_wp2_with (first | ((with_reducible refine gate_callee (f := 13) rfl ?_); refine goesL_ (some 42) rfl rfl Try.func13 (by kernel_rfl) rfl #[.string a0, .int .i64 (rd l1 x8_2)] rfl (by (try simp only [List.map_toArray, List.map_cons, List.map_nil]); first | done | rfl | (simp only [List.length_drop, List.length_take]; rfl)) ?_; (with_reducible refine (scan_Line.calls k2 a0 (rd l1 x8_2) t134 t135 t136 _ A10.out).mono ?_); rintro e w' ⟨rfl, ⟨nd, rfl⟩⟩; refine ⟨_, rfl, ?_⟩; have p137 : 0 ≤ (x8_2 : Int) := of_decide_eq_true (by first | (with_reducible assumption) | assumption); have q137 : x8_2 < (l1.length : Int) := of_decide_eq_true (by first | (with_reducible assumption) | assumption); obtain ⟨ad137, e137, hx137_0⟩ := Kd.at_int HR1.out x8_2 p137 q137; obtain rfl : ad133 = ad137 := (by injection e137); replace p137 := eq_true p137; replace q137 := eq_true q137) | ((with_reducible refine gate_callee (f := 14) rfl ?_); refine goesL_ (some 52) rfl rfl Try.func14 (by kernel_rfl) rfl #[.string a0, .int .i64 (rd l1 x8_2)] rfl (by (try simp only [List.map_toArray, List.map_cons, List.map_nil]); first | done | rfl | (simp only [List.length_drop, List.length_take]; rfl)) ?_; (with_reducible refine (sigilref4_Line.calls k2 a0 (rd l1 x8_2) t138 t139 t140 _ A11.out).mono ?_); rintro e w' ⟨rfl, ⟨nd, rfl⟩⟩; refine ⟨_, rfl, ?_⟩))
                      go_ret
                      exact ⟨by first | rfl | (simp; done) | (simp [*]; done), by repeat (first | exact Drawn0.refl _ | apply Drawn0.step)⟩
                  · rw [if_neg c13] at H
                    have c13b0 : (t135 == t139) = false := beq_eq_false_iff_ne.mpr c13
                    have c13b1 : (t135 != t139) = true := bne_iff_ne.mpr c13
                    obtain rfl := Option.some.inj H
                    have p133 : 0 ≤ (x8_2 : Int) := of_decide_eq_true (by first | (with_reducible assumption) | assumption)
                    have q133 : x8_2 < (l1.length : Int) := of_decide_eq_true (by first | (with_reducible assumption) | assumption)
                    obtain ⟨ad133, e133, hx133_0⟩ := Kd.at_int HR1.out x8_2 p133 q133
                    cases e133
                    replace p133 := eq_true p133
                    replace q133 := eq_true q133
                    go_wp2_with (first | ((with_reducible refine gate_callee (f := 13) rfl ?_); refine goesL_ (some 42) rfl rfl Try.func13 (by kernel_rfl) rfl #[.string a0, .int .i64 (rd l1 x8_2)] rfl (by (try simp only [List.map_toArray, List.map_cons, List.map_nil]); first | done | rfl | (simp only [List.length_drop, List.length_take]; rfl)) ?_; (with_reducible refine (scan_Line.calls k2 a0 (rd l1 x8_2) t134 t135 t136 _ A10.out).mono ?_); rintro e w' ⟨rfl, ⟨nd, rfl⟩⟩; refine ⟨_, rfl, ?_⟩; have p137 : 0 ≤ (x8_2 : Int) := of_decide_eq_true (by first | (with_reducible assumption) | assumption); have q137 : x8_2 < (l1.length : Int) := of_decide_eq_true (by first | (with_reducible assumption) | assumption); obtain ⟨ad137, e137, hx137_0⟩ := Kd.at_int HR1.out x8_2 p137 q137; obtain rfl : ad133 = ad137 := (by injection e137); replace p137 := eq_true p137; replace q137 := eq_true q137) | ((with_reducible refine gate_callee (f := 14) rfl ?_); refine goesL_ (some 52) rfl rfl Try.func14 (by kernel_rfl) rfl #[.string a0, .int .i64 (rd l1 x8_2)] rfl (by (try simp only [List.map_toArray, List.map_cons, List.map_nil]); first | done | rfl | (simp only [List.length_drop, List.length_take]; rfl)) ?_; (with_reducible refine (sigilref4_Line.calls k2 a0 (rd l1 x8_2) t138 t139 t140 _ A11.out).mono ?_); rintro e w' ⟨rfl, ⟨nd, rfl⟩⟩; refine ⟨_, rfl, ?_⟩))
                    go_ret
                    exact ⟨by first | rfl | (simp; done) | (simp [*]; done), by repeat (first | exact Drawn0.refl _ | apply Drawn0.step)⟩
                · rw [if_neg c12] at H
                  have c12b0 : (t134 == t138) = false := beq_eq_false_iff_ne.mpr c12
                  have c12b1 : (t134 != t138) = true := bne_iff_ne.mpr c12
                  obtain rfl := Option.some.inj H
                  have p133 : 0 ≤ (x8_2 : Int) := of_decide_eq_true (by first | (with_reducible assumption) | assumption)
                  have q133 : x8_2 < (l1.length : Int) := of_decide_eq_true (by first | (with_reducible assumption) | assumption)
                  obtain ⟨ad133, e133, hx133_0⟩ := Kd.at_int HR1.out x8_2 p133 q133
                  cases e133
                  replace p133 := eq_true p133
                  replace q133 := eq_true q133
                  go_wp2_with (first | ((with_reducible refine gate_callee (f := 13) rfl ?_); refine goesL_ (some 42) rfl rfl Try.func13 (by kernel_rfl) rfl #[.string a0, .int .i64 (rd l1 x8_2)] rfl (by (try simp only [List.map_toArray, List.map_cons, List.map_nil]); first | done | rfl | (simp only [List.length_drop, List.length_take]; rfl)) ?_; (with_reducible refine (scan_Line.calls k2 a0 (rd l1 x8_2) t134 t135 t136 _ A10.out).mono ?_); rintro e w' ⟨rfl, ⟨nd, rfl⟩⟩; refine ⟨_, rfl, ?_⟩; have p137 : 0 ≤ (x8_2 : Int) := of_decide_eq_true (by first | (with_reducible assumption) | assumption); have q137 : x8_2 < (l1.length : Int) := of_decide_eq_true (by first | (with_reducible assumption) | assumption); obtain ⟨ad137, e137, hx137_0⟩ := Kd.at_int HR1.out x8_2 p137 q137; obtain rfl : ad133 = ad137 := (by injection e137); replace p137 := eq_true p137; replace q137 := eq_true q137) | ((with_reducible refine gate_callee (f := 14) rfl ?_); refine goesL_ (some 52) rfl rfl Try.func14 (by kernel_rfl) rfl #[.string a0, .int .i64 (rd l1 x8_2)] rfl (by (try simp only [List.map_toArray, List.map_cons, List.map_nil]); first | done | rfl | (simp only [List.length_drop, List.length_take]; rfl)) ?_; (with_reducible refine (sigilref4_Line.calls k2 a0 (rd l1 x8_2) t138 t139 t140 _ A11.out).mono ?_); rintro e w' ⟨rfl, ⟨nd, rfl⟩⟩; refine ⟨_, rfl, ?_⟩))
                  go_ret
                  exact ⟨by first | rfl | (simp; done) | (simp [*]; done), by repeat (first | exact Drawn0.refl _ | apply Drawn0.step)⟩
              · rw [if_neg c9] at H
                exact absurd H (by simp)
            · rw [if_neg c8] at H
              have c8b0 : decide (x8_2 < (l1.length : Int)) = false := decide_eq_false c8
              clear c8
              obtain rfl := Option.some.inj H
              go_wp2
              go_ret
              exact ⟨by first | rfl | (simp; done) | (simp [*]; done), by repeat (first | exact Drawn0.refl _ | apply Drawn0.step)⟩

/-- THE ONE PURE STATEMENT of sigillaw4_ScanLines: yours. -/
def sigillaw4_ScanLines.Pure : Prop := ∀ (a0 : ByteArray) (l1 : List Int), a0.size ≤ 140737488351232 → l1.length ≤ maxLen → l1.length * 8 ≤ 140737488351232 → (∀ x ∈ l1, (Lit.int .i64 x).wf = true) → ∃ k, sigillaw4_ScanLines.f k a0 l1 = some true
theorem sigillaw4_ScanLines.walk (P : sigillaw4_ScanLines.Pure) (a0 : ByteArray) (a1 : Option Addr) (len1 cap1 : Nat) (z1 : List Int) (w : World) (w0 : a0.size ≤ 140737488351232) (w1 : (a1 = none ∧ len1 = 0 ∧ cap1 = 0 ∧ z1 = []) ∨ ∃ x, a1 = some x ∧ len1 ≤ cap1 ∧ cap1 ≤ maxLen ∧ z1.length = cap1 ∧ (∀ i, i < z1.length → w.cell? (x.add i) = some (.int .i64 (z1.getD i 0))) ∧ ∀ n ∈ z1, (Lit.int .i64 n).wf = true) (y1 : len1 * 8 ≤ 140737488351232) :
    Calls Try.prog 8 #[.string a0, .slice a1 len1 cap1] w fun e w' => e = .returned (.bool true) ∧ Below w.heap.size w w' := by
  obtain ⟨l1, rfl, hr1, hm1, hw1, hc1⟩ := ReadsInt.ofRowC w1
  obtain ⟨k, h⟩ := P a0 l1 w0 hm1 y1 hw1
  refine (sigillaw4_ScanLines.calls k a0 _ _ l1 true w (Kd.C_of_reads (d := (0 : Int)) (h1 := fun _ => rfl) hr1) hc1 h).mono ?_
  rintro e w' ⟨rfl, hd⟩
  exact ⟨rfl, hd.below⟩

end Go.Proofs.YtabgnbbljjohdaaR.A
