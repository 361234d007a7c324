-- THIS SESSION'S TEXT: written by plugprint.py out of the translation, with contracts proved by hand.
import Derived.Test.YtabgnbbljjohdaaRDoorAx0
import Derived.Test.YtabgnbbljjohdaaRDoorAx8
namespace Go.Proofs.YtabgnbbljjohdaaRDoor.A
open Go.RowKit Go.Proofs.YtabgnbbljjohdaaRDoorW.PrintWords Go.Proofs.YtabgnbbljjohdaaRDoorW.PrintLast Go.Proofs.YtabgnbbljjohdaaRDoorW.PrintMore
attribute [local go_sem] max2_int min2_int max_two min_two max_three min_three max_four min_four   -- for this text's walks alone
set_option linter.unusedVariables false
set_option linter.unusedSimpArgs false

/-! ### sigilref4_escape: function 54 -/
mutual
def sigilref4_escape.l0 : Nat → ByteArray → Int → Int → ByteArray → List Int → Int → Option (Int × Int)
  | 0, _, _, _, _, _, _ => none
  | k + 1, x0, x1, x6, x7, x8, x9 => if x9 < (x7.size : Int) then (if 0 ≤ x9 then (if (bt x7 x9) = x6 then (if x9 < (x8.length : Int) then (some (rd x8 x9, 2)) else (none)) else (sigilref4_escape.l0 k x0 x1 x6 x7 x8 (wrap64 (x9 + 1)))) else (none)) else (if x6 = 120 then (sigilref4_escape.j1 k x0 x1 true) else (sigilref4_escape.j1 k x0 x1 (x6 == 88)))
def sigilref4_escape.j1 : Nat → ByteArray → Int → Bool → Option (Int × Int)
  | 0, _, _, _ => none
  | k + 1, x0, x1, x44 => if x44 = true then (sigilref4_escape.l1 k x0 x1 0 2) else (sigilref4_escape.l2 k x0 x1 0 1)
def sigilref4_escape.l1 : Nat → ByteArray → Int → Int → Int → Option (Int × Int)
  | 0, _, _, _, _ => none
  | k + 1, x0, x1, x10, x11 => if x11 < 4 then (if (wrap64 (x1 + x11)) < (x0.size : Int) then (if 0 ≤ (wrap64 (x1 + x11)) then ((sigilref4_hex.f k (bt x0 (wrap64 (x1 + x11)))).bind fun t125 => (if t125 ≥ 0 then ((sigilref4_hex.f k (bt x0 (wrap64 (x1 + x11)))).bind fun t126 => (sigilref4_escape.l1 k x0 x1 (wrap64 ((wrap64 (x10 * 16)) + t126)) (wrap64 (x11 + 1)))) else (if x11 = 2 then (some (0, 0)) else (some ((x10) % 256, x11))))) else (none)) else (if x11 = 2 then (some (0, 0)) else (some ((x10) % 256, x11)))) else (if x11 = 2 then (some (0, 0)) else (some ((x10) % 256, x11)))
def sigilref4_escape.l2 : Nat → ByteArray → Int → Int → Int → Option (Int × Int)
  | 0, _, _, _, _ => none
  | k + 1, x0, x1, x12, x13 => if x13 < 4 then (if (wrap64 (x1 + x13)) < (x0.size : Int) then (if 0 ≤ (wrap64 (x1 + x13)) then ((sigilref4_digit.f (bt x0 (wrap64 (x1 + x13))) 8).bind fun t127 => (if t127 = true then (sigilref4_escape.l2 k x0 x1 (wrap64 ((wrap64 (x12 * 8)) + (((bt x0 (wrap64 (x1 + x13))) - 48) % 256))) (wrap64 (x13 + 1))) else (if x13 = 1 then (some (0, 0)) else (if x12 > 255 then (some (0, 0)) else (some ((x12) % 256, x13)))))) else (none)) else (if x13 = 1 then (some (0, 0)) else (if x12 > 255 then (some (0, 0)) else (some ((x12) % 256, x13))))) else (if x13 = 1 then (some (0, 0)) else (if x12 > 255 then (some (0, 0)) else (some ((x12) % 256, x13))))
end
def sigilref4_escape.f (k : Nat) (a0 : ByteArray) (a1 : Int) : Option (Int × Int) := if (wrap64 (a1 + 1)) ≥ (a0.size : Int) then (some (0, 0)) else (if 0 ≤ (wrap64 (a1 + 1)) then (if (wrap64 (a1 + 1)) < (a0.size : Int) then (sigilref4_escape.l0 k a0 a1 (bt a0 (wrap64 (a1 + 1))) (⟨#[97, 98, 102, 110, 114, 116, 118, 92, 39, 34]⟩ : ByteArray) (([7, 8, 12, 10, 13, 9, 11, 92, 39, 34] : List Int)) 0) else (none)) else (none))
theorem sigilref4_escape.mono_l : ∀ k, (∀ y0 y1 y2 y3 y4 y5, LeO (sigilref4_escape.l0 k y0 y1 y2 y3 y4 y5) (sigilref4_escape.l0 (k + 1) y0 y1 y2 y3 y4 y5)) ∧ (∀ y0 y1 y2, LeO (sigilref4_escape.j1 k y0 y1 y2) (sigilref4_escape.j1 (k + 1) y0 y1 y2)) ∧ (∀ y0 y1 y2 y3, LeO (sigilref4_escape.l1 k y0 y1 y2 y3) (sigilref4_escape.l1 (k + 1) y0 y1 y2 y3)) ∧ (∀ y0 y1 y2 y3, LeO (sigilref4_escape.l2 k y0 y1 y2 y3) (sigilref4_escape.l2 (k + 1) y0 y1 y2 y3))
  | 0 => ⟨fun _ _ _ _ _ _ r h => by simp [sigilref4_escape.l0] at h, fun _ _ _ r h => by simp [sigilref4_escape.j1] at h, fun _ _ _ _ r h => by simp [sigilref4_escape.l1] at h, fun _ _ _ _ r h => by simp [sigilref4_escape.l2] at h⟩
  | k + 1 => by
    obtain ⟨ih0, ih1, ih2, ih3⟩ := sigilref4_escape.mono_l k
    refine ⟨?_, ?_, ?_, ?_⟩
    · intro y0 y1 y2 y3 y4 y5
      unfold sigilref4_escape.l0
      repeat' first
      | (with_reducible exact ih0 _ _ _ _ _ _)
      | (with_reducible exact ih1 _ _ _)
      | (with_reducible exact ih2 _ _ _ _)
      | (with_reducible exact ih3 _ _ _ _)
      | (with_reducible exact sigilref4_hex.mono _ _)
      | (with_reducible exact LeO.refl _)
      | (with_reducible exact LeO.none _)
      | (with_reducible refine LeO.ite ?_ ?_)
      | (with_reducible refine LeO.bind ?_ (fun _ => ?_))
      | exact ih0 _ _ _ _ _ _
      | exact ih1 _ _ _
      | exact ih2 _ _ _ _
      | exact ih3 _ _ _ _
      | exact sigilref4_hex.mono _ _
      | exact LeO.none _
      | refine LeO.ite ?_ ?_
      | refine LeO.bind ?_ (fun _ => ?_)
    · intro y0 y1 y2
      unfold sigilref4_escape.j1
      repeat' first
      | (with_reducible exact ih0 _ _ _ _ _ _)
      | (with_reducible exact ih1 _ _ _)
      | (with_reducible exact ih2 _ _ _ _)
      | (with_reducible exact ih3 _ _ _ _)
      | (with_reducible exact sigilref4_hex.mono _ _)
      | (with_reducible exact LeO.refl _)
      | (with_reducible exact LeO.none _)
      | (with_reducible refine LeO.ite ?_ ?_)
      | (with_reducible refine LeO.bind ?_ (fun _ => ?_))
      | exact ih0 _ _ _ _ _ _
      | exact ih1 _ _ _
      | exact ih2 _ _ _ _
      | exact ih3 _ _ _ _
      | exact sigilref4_hex.mono _ _
      | exact LeO.none _
      | refine LeO.ite ?_ ?_
      | refine LeO.bind ?_ (fun _ => ?_)
    · intro y0 y1 y2 y3
      unfold sigilref4_escape.l1
      repeat' first
      | (with_reducible exact ih0 _ _ _ _ _ _)
      | (with_reducible exact ih1 _ _ _)
      | (with_reducible exact ih2 _ _ _ _)
      | (with_reducible exact ih3 _ _ _ _)
      | (with_reducible exact sigilref4_hex.mono _ _)
      | (with_reducible exact LeO.refl _)
      | (with_reducible exact LeO.none _)
      | (with_reducible refine LeO.ite ?_ ?_)
      | (with_reducible refine LeO.bind ?_ (fun _ => ?_))
      | exact ih0 _ _ _ _ _ _
      | exact ih1 _ _ _
      | exact ih2 _ _ _ _
      | exact ih3 _ _ _ _
      | exact sigilref4_hex.mono _ _
      | exact LeO.none _
      | refine LeO.ite ?_ ?_
      | refine LeO.bind ?_ (fun _ => ?_)
    · intro y0 y1 y2 y3
      unfold sigilref4_escape.l2
      repeat' first
      | (with_reducible exact ih0 _ _ _ _ _ _)
      | (with_reducible exact ih1 _ _ _)
      | (with_reducible exact ih2 _ _ _ _)
      | (with_reducible exact ih3 _ _ _ _)
      | (with_reducible exact sigilref4_hex.mono _ _)
      | (with_reducible exact LeO.refl _)
      | (with_reducible exact LeO.none _)
      | (with_reducible refine LeO.ite ?_ ?_)
      | (with_reducible refine LeO.bind ?_ (fun _ => ?_))
      | exact ih0 _ _ _ _ _ _
      | exact ih1 _ _ _
      | exact ih2 _ _ _ _
      | exact ih3 _ _ _ _
      | exact sigilref4_hex.mono _ _
      | exact LeO.none _
      | refine LeO.ite ?_ ?_
      | refine LeO.bind ?_ (fun _ => ?_)
theorem sigilref4_escape.mono : ∀ a0 a1 k, LeO (sigilref4_escape.f k a0 a1) (sigilref4_escape.f (k + 1) a0 a1) := by
  intro a0 a1 k
  obtain ⟨ih0, ih1, ih2, ih3⟩ := sigilref4_escape.mono_l k
  unfold sigilref4_escape.f
  repeat' first
      | (with_reducible exact ih0 _ _ _ _ _ _)
      | (with_reducible exact ih1 _ _ _)
      | (with_reducible exact ih2 _ _ _ _)
      | (with_reducible exact ih3 _ _ _ _)
      | (with_reducible exact sigilref4_hex.mono _ _)
      | (with_reducible exact LeO.refl _)
      | (with_reducible exact LeO.none _)
      | (with_reducible refine LeO.ite ?_ ?_)
      | (with_reducible refine LeO.bind ?_ (fun _ => ?_))
      | exact ih0 _ _ _ _ _ _
      | exact ih1 _ _ _
      | exact ih2 _ _ _ _
      | exact ih3 _ _ _ _
      | exact sigilref4_hex.mono _ _
      | exact LeO.none _
      | refine LeO.ite ?_ ?_
      | refine LeO.bind ?_ (fun _ => ?_)
set_option maxHeartbeats 8000000 in
set_option maxRecDepth 100000 in
theorem sigilref4_escape.calls (k : Nat) (a0 : ByteArray) (a1 : Int) (r1 : Int) (r2 : Int) (w : World) (h : sigilref4_escape.f k a0 a1 = some (r1, r2)) :
    Calls Tryd.prog 54 #[.string a0, .int .i64 a1] w fun e w' => e = .returned (.tuple #[.int .u8 r1, .int .i64 r2]) ∧ Below w.heap.size w w' := by
  have HB := Aside0.mk (Below.refl w.heap.size w)
  have H : (if (wrap64 (a1 + 1)) ≥ (a0.size : Int) then (some (0, 0)) else (if 0 ≤ (wrap64 (a1 + 1)) then (if (wrap64 (a1 + 1)) < (a0.size : Int) then (sigilref4_escape.l0 k a0 a1 (bt a0 (wrap64 (a1 + 1))) (⟨#[97, 98, 102, 110, 114, 116, 118, 92, 39, 34]⟩ : ByteArray) (([7, 8, 12, 10, 13, 9, 11, 92, 39, 34] : List Int)) 0) else (none)) else (none))) = some (r1, r2) := h
  clear h
  by_cases c3 : (wrap64 (a1 + 1)) ≥ (a0.size : Int)
  · rw [if_pos c3] at H
    have c3b0 : decide ((a0.size : Int) ≤ (wrap64 (a1 + 1))) = true := decide_eq_true c3
    clear c3
    simp only [Option.some.injEq, Prod.mk.injEq] at H
    obtain ⟨rfl, rfl⟩ := H
    go_enter Tryd.func54, Tryd.ntmps54
    go_wp2
    go_ret2
    exact ⟨by first | rfl | (simp [errW_none, errW_some] <;> rfl) | (simp [*, errW_none, errW_some] <;> rfl), by repeat (first | (with_reducible first | exact HB.out | apply below_alloc | apply pw_below_drewN | apply below_drew1) | exact HB.out)⟩
  · rw [if_neg c3] at H
    have c3b0 : decide ((a0.size : Int) ≤ (wrap64 (a1 + 1))) = false := decide_eq_false c3
    clear c3
    obtain ⟨ji4, hji4⟩ : ∃ j_ : Int, (wrap64 (a1 + 1)) = j_ := ⟨_, rfl⟩
    replace H : (if 0 ≤ (ji4) then (if (ji4) < (a0.size : Int) then (sigilref4_escape.l0 k a0 a1 (bt a0 (ji4)) (⟨#[97, 98, 102, 110, 114, 116, 118, 92, 39, 34]⟩ : ByteArray) (([7, 8, 12, 10, 13, 9, 11, 92, 39, 34] : List Int)) 0) else (none)) else (none)) = some (r1, r2) := by first | (rw [hji4] at H; exact H) | (simp only [hji4] at H ⊢; exact H)
    (try rw [hji4] at c3b0)
    have hji4w : (IntKind.i64.wrap (a1 + 1)) = ji4 := (i64_w _).trans hji4
    by_cases c5 : 0 ≤ (ji4)
    · rw [if_pos c5] at H
      have c5b0 : decide (0 ≤ (ji4)) = true := decide_eq_true c5
      clear c5
      by_cases c6 : (ji4) < (a0.size : Int)
      · rw [if_pos c6] at H
        have c6b0 : decide ((ji4) < (a0.size : Int)) = true := decide_eq_true c6
        clear c6
        obtain ⟨y121, hy121⟩ : ∃ y_ : List Int, y_ = (([7, 8, 12, 10, 13, 9, 11, 92, 39, 34] : List Int)) := ⟨_, rfl⟩
        replace H : (sigilref4_escape.l0 k a0 a1 (bt a0 (ji4)) (⟨#[97, 98, 102, 110, 114, 116, 118, 92, 39, 34]⟩ : ByteArray) y121 0) = some (r1, r2) := by first | (rw [hy121]; with_reducible exact H) | (have H2_ := (Option.bind_some _ _).symm.trans H; rw [hy121]; with_reducible exact H2_) | (have H2_ := (Option.bind_some _ _).symm.trans H; with_reducible exact H2_) | with_reducible exact H | (rw [hy121]; exact H) | exact H
        have Ny121 := Aside0.mk hy121
        clear hy121
        have H' := Aside0.mk H
        clear H
        have p7 : 0 ≤ ((ji4) : Int) := of_decide_eq_true (by first | (with_reducible assumption) | assumption)
        have q7 : (ji4) < (a0.size : Int) := of_decide_eq_true (by first | (with_reducible assumption) | assumption)
        have hx7 := bt_at a0 (ji4)
        replace p7 := eq_true p7
        replace q7 := eq_true q7
        go_enter Tryd.func54, Tryd.ntmps54
        go_wp2_with (first | ((with_reducible refine gate_dst (N := 23) rfl ?_); (try (refine gate_guard (by rfl) ?_; dsimp only)); refine Kd.R_lit (Kd.int .u8) _ 5 ?hg (N := 23) ?hd (xs := ([7, 8, 12, 10, 13, 9, 11, 92, 39, 34] : List Int)) (inner := [.int .u8 7, .int .u8 8, .int .u8 12, .int .u8 10, .int .u8 13, .int .u8 9, .int .u8 11, .int .u8 92, .int .u8 39, .int .u8 34]) (ok := fun _ => True) (okp := fun _ => True) ?hr ?hp (fun _ hk => hk) trivial (Below.refl _ _) (Nat.le_refl _) (by simp) ?_; (case hd => rfl); (case hg => rfl); (case hr => first | (go_simp; done) | (go_simp; rfl)); (case hp => exact (Reps.one (show Kd.M (Kd.int .u8) _ _ _ 7 [.int .u8 7] from rfl) (Reps.one (show Kd.M (Kd.int .u8) _ _ _ 8 [.int .u8 8] from rfl) (Reps.one (show Kd.M (Kd.int .u8) _ _ _ 12 [.int .u8 12] from rfl) (Reps.one (show Kd.M (Kd.int .u8) _ _ _ 10 [.int .u8 10] from rfl) (Reps.one (show Kd.M (Kd.int .u8) _ _ _ 13 [.int .u8 13] from rfl) (Reps.one (show Kd.M (Kd.int .u8) _ _ _ 9 [.int .u8 9] from rfl) (Reps.one (show Kd.M (Kd.int .u8) _ _ _ 11 [.int .u8 11] from rfl) (Reps.one (show Kd.M (Kd.int .u8) _ _ _ 92 [.int .u8 92] from rfl) (Reps.one (show Kd.M (Kd.int .u8) _ _ _ 39 [.int .u8 39] from rfl) (Reps.one (show Kd.M (Kd.int .u8) _ _ _ 34 [.int .u8 34] from rfl) (Reps.none _ _)))))))))))); intro v122 w8 ho9 hb hg_ hnew_; clear hg_ hnew_; (first | rw [← Ny121.out] at ho9 | (simp only [Int.reduceToNat] at ho9; rw [← Ny121.out] at ho9)); have n0_ := Aside0.mk (Kd.R_lower ho9 (below_size (by repeat (first | (with_reducible first | exact HB.out | apply below_alloc | apply pw_below_drewN | apply below_drew1) | exact HB.out)))); have n1_ := Aside0.mk (below_step (by repeat (first | (with_reducible first | exact HB.out | apply below_alloc | apply pw_below_drewN | apply below_drew1) | exact HB.out)) hb); clear HB; have HO123 := n0_; have HB := n1_; clear n0_ n1_; clear hb ho9))
        go_loopg [9] k (fun kq v9 w' => ∃ (x9_1 : Int), v9 = .int .i64 x9_1 ∧ Aside0 (sigilref4_escape.l0 kq a0 a1 (bt a0 (ji4)) (⟨#[97, 98, 102, 110, 114, 116, 118, 92, 39, 34]⟩ : ByteArray) y121 x9_1 = some (r1, r2)) ∧ Aside0 (kq ≤ k) ∧ Aside0 (Kd.R (Kd.int .u8) 5 w' w.heap.size (fun _ => True) v122 y121) ∧ Aside0 (Below w.heap.size w w'))
        case atStart => exact ⟨(0), (by first | rfl | (simp; done) | (simp [*]; done)), H', ⟨Nat.le_refl _⟩, ⟨by (with_reducible repeat (first | apply Kd.R_alloc | apply Kd.R_drewN | apply Kd.R_drew)); exact HO123.out⟩, ⟨by repeat (first | (with_reducible first | exact HB.out | apply below_alloc | apply pw_below_drewN | apply below_drew1) | exact HB.out)⟩⟩
        case round =>
          clear H'
          try clear p2
          try clear c3
          try clear c3b0
          try clear c5
          try clear c5b0
          try clear c6
          try clear c6b0
          try clear p6
          try clear p7
          try clear q7
          try clear hx7
          try clear p7
          try clear q7
          obtain ⟨x9_1, rfl, HA, HK1, HO_8, HB⟩ := hrel
          cases gk with
          | zero => exact absurd HA.out (by simp [sigilref4_escape.l0])
          | succ k1 =>
            have H := HA.out
            clear HA
            simp only [sigilref4_escape.l0] at H
            by_cases c10 : x9_1 < ((⟨#[97, 98, 102, 110, 114, 116, 118, 92, 39, 34]⟩ : ByteArray).size : Int)
            · rw [if_pos c10] at H
              have c10b0 : decide (x9_1 < ((⟨#[97, 98, 102, 110, 114, 116, 118, 92, 39, 34]⟩ : ByteArray).size : Int)) = true := decide_eq_true c10
              have c10b9 : decide (x9_1 < (10 : Int)) = true := decide_eq_true c10
              clear c10
              by_cases c11 : 0 ≤ x9_1
              · rw [if_pos c11] at H
                have c11b0 : decide (0 ≤ x9_1) = true := decide_eq_true c11
                clear c11
                by_cases c13 : (bt (⟨#[97, 98, 102, 110, 114, 116, 118, 92, 39, 34]⟩ : ByteArray) x9_1) = (bt a0 (ji4))
                · rw [if_pos c13] at H
                  have c13b0 : ((bt (⟨#[97, 98, 102, 110, 114, 116, 118, 92, 39, 34]⟩ : ByteArray) x9_1) == (bt a0 (ji4))) = true := beq_iff_eq.mpr c13
                  have c13b1 : ((bt (⟨#[97, 98, 102, 110, 114, 116, 118, 92, 39, 34]⟩ : ByteArray) x9_1) != (bt a0 (ji4))) = false := bne_eq_false_iff_eq.mpr c13
                  clear c13
                  by_cases c14 : x9_1 < (y121.length : Int)
                  · rw [if_pos c14] at H
                    have c14b0 : decide (x9_1 < (y121.length : Int)) = true := decide_eq_true c14
                    clear c14
                    simp only [Option.some.injEq, Prod.mk.injEq] at H
                    obtain ⟨rfl, rfl⟩ := H
                    have p12 : 0 ≤ (x9_1 : Int) := of_decide_eq_true (by first | (with_reducible assumption) | assumption)
                    have q12 : x9_1 < (10 : Int) := of_decide_eq_true (by first | (with_reducible assumption) | assumption)
                    have hx12 := bt_at (⟨#[97, 98, 102, 110, 114, 116, 118, 92, 39, 34]⟩ : ByteArray) x9_1
                    replace p12 := eq_true p12
                    replace q12 := eq_true q12
                    obtain ⟨Ao15, co15, eo15⟩ := Kd.R_slice HO_8.out
                    subst eo15
                    have p124 : 0 ≤ (x9_1 : Int) := of_decide_eq_true (by first | (with_reducible assumption) | assumption)
                    have q124 : x9_1 < (y121.length : Int) := of_decide_eq_true (by first | (with_reducible assumption) | assumption)
                    obtain ⟨ad124, e124, hx124_0⟩ := Kd.at_int (Kd.R_reads' HO_8.out).2.2 x9_1 p124 q124
                    cases e124
                    replace p124 := eq_true p124
                    replace q124 := eq_true q124
                    go_wp2
                    go_ret2
                    exact ⟨by first | rfl | (simp [errW_none, errW_some] <;> rfl) | (simp only [← hji4]; first | rfl | (simp [errW_none, errW_some] <;> rfl)) | (simp [*, errW_none, errW_some] <;> rfl), by repeat (first | (with_reducible first | exact HB.out | apply below_alloc | apply pw_below_drewN | apply below_drew1) | exact HB.out)⟩
                  · rw [if_neg c14] at H
                    exact absurd H (by simp)
                · rw [if_neg c13] at H
                  have c13b0 : ((bt (⟨#[97, 98, 102, 110, 114, 116, 118, 92, 39, 34]⟩ : ByteArray) x9_1) == (bt a0 (ji4))) = false := beq_eq_false_iff_ne.mpr c13
                  have c13b1 : ((bt (⟨#[97, 98, 102, 110, 114, 116, 118, 92, 39, 34]⟩ : ByteArray) x9_1) != (bt a0 (ji4))) = true := bne_iff_ne.mpr c13
                  have H' := Aside0.mk H
                  clear H
                  have p12 : 0 ≤ (x9_1 : Int) := of_decide_eq_true (by first | (with_reducible assumption) | assumption)
                  have q12 : x9_1 < (10 : Int) := of_decide_eq_true (by first | (with_reducible assumption) | assumption)
                  have hx12 := bt_at (⟨#[97, 98, 102, 110, 114, 116, 118, 92, 39, 34]⟩ : ByteArray) x9_1
                  replace p12 := eq_true p12
                  replace q12 := eq_true q12
                  go_wp2
                  go_roundg k1
                  case measure => have := HK1.out; omega
                  case rel => exact ⟨(wrap64 (x9_1 + 1)), (by first | rfl | (simp; done) | (simp [*]; done)), H', ⟨by have := HK1.out; omega⟩, ⟨by (with_reducible repeat (first | apply Kd.R_alloc | apply Kd.R_drewN | apply Kd.R_drew)); exact HO_8.out⟩, ⟨by repeat (first | (with_reducible first | exact HB.out | apply below_alloc | apply pw_below_drewN | apply below_drew1) | exact HB.out)⟩⟩
              · rw [if_neg c11] at H
                exact absurd H (by simp)
            · rw [if_neg c10] at H
              have c10b0 : decide (x9_1 < ((⟨#[97, 98, 102, 110, 114, 116, 118, 92, 39, 34]⟩ : ByteArray).size : Int)) = false := decide_eq_false c10
              have c10b9 : decide (x9_1 < (10 : Int)) = false := decide_eq_false c10
              clear c10
              have HC16 := Aside0.mk H
              clear H
              go_upto_region 11 with (fail)
              go_cut [44] (fun v44 wc => ∃ (kq : Nat) (x44_15 : Bool), v44 = .bool x44_15 ∧ Aside0 (sigilref4_escape.j1 kq a0 a1 x44_15 = some (r1, r2)) ∧ Aside0 (kq ≤ k1) ∧ Aside0 (Below w.heap.size w wc))
              case first =>
                have H := HC16.out
                clear HC16
                by_cases c17 : (bt a0 (ji4)) = 120
                · rw [if_pos c17] at H
                  have c17b0 : ((bt a0 (ji4)) == 120) = true := beq_iff_eq.mpr c17
                  have c17b1 : ((bt a0 (ji4)) != 120) = false := bne_eq_false_iff_eq.mpr c17
                  clear c17
                  (first | rw [c17b0] | (simp only [i64_w, i32_w]; rw [c17b0]) | skip)
                  have H' := Aside0.mk H
                  clear H
                  go_wp2
                  go_meet
                  case rel => exact ⟨_, (true), (by first | rfl | (simp; done) | (simp [*]; done)), H', ⟨by have := HK1.out; first | omega | exact Nat.le_refl _⟩, ⟨by repeat (first | (with_reducible first | exact HB.out | apply below_alloc | apply pw_below_drewN | apply below_drew1) | exact HB.out)⟩⟩
                · rw [if_neg c17] at H
                  have c17b0 : ((bt a0 (ji4)) == 120) = false := beq_eq_false_iff_ne.mpr c17
                  have c17b1 : ((bt a0 (ji4)) != 120) = true := bne_iff_ne.mpr c17
                  (first | rw [c17b0] | (simp only [i64_w, i32_w]; rw [c17b0]) | skip)
                  have H' := Aside0.mk H
                  clear H
                  go_wp2
                  go_meet
                  case rel => exact ⟨_, (((bt a0 (ji4)) == 88)), (by first | rfl | (simp; done) | (simp only [← hji4] <;> (first | rfl | simp)) | (simp [*]; done)), H', ⟨by have := HK1.out; first | omega | exact Nat.le_refl _⟩, ⟨by repeat (first | (with_reducible first | exact HB.out | apply below_alloc | apply pw_below_drewN | apply below_drew1) | exact HB.out)⟩⟩
              case rest =>
                clear HC16
                try clear c1
                try clear p1
                try clear q1
                try clear hx1
                try clear p2
                try clear c3
                try clear c3b0
                try clear c5
                try clear c5b0
                try clear c6
                try clear c6b0
                try clear p6
                try clear p7
                try clear q7
                try clear hx7
                try clear c10
                try clear c10b0
                try clear c11
                try clear c11b0
                try clear p12
                try clear q12
                try clear hx12
                try clear c13
                try clear c13b0
                try clear c13b1
                try clear c14
                try clear c14b0
                try clear c17
                try clear c17b0
                try clear c17b1
                try clear hx124_0
                try clear p12
                try clear p124
                try clear p2
                try clear p6
                try clear p7
                try clear q12
                try clear q124
                try clear q7
                obtain ⟨kq, x44_15, rfl, HA, HJ15, HB⟩ := hcut
                cases kq with
                | zero => exact absurd HA.out (by simp [sigilref4_escape.j1])
                | succ kj15 =>
                  have H := HA.out
                  clear HA
                  simp only [sigilref4_escape.j1] at H
                  by_cases c18 : x44_15 = true
                  · subst c18
                    have H1 : (sigilref4_escape.l1 kj15 a0 a1 0 2) = some (r1, r2) := by rw [if_pos rfl] at H; exact H
                    clear H
                    have H := H1
                    clear H1
                    have H' := Aside0.mk H
                    clear H
                    go_wp2
                    go_loopg [10, 11] kj15 (fun kq v10 v11 w' => ∃ (x10_3 : Int) (x11_3 : Int), v10 = .int .i64 x10_3 ∧ v11 = .int .i64 x11_3 ∧ Aside0 (sigilref4_escape.l1 kq a0 a1 x10_3 x11_3 = some (r1, r2)) ∧ Aside0 (kq ≤ kj15) ∧ Aside0 (Below w.heap.size w w'))
                    case atStart => exact ⟨(0), (2), (by first | rfl | (simp; done) | (simp [*]; done)), (by first | rfl | (simp; done) | (simp [*]; done)), H', ⟨Nat.le_refl _⟩, ⟨by repeat (first | (with_reducible first | exact HB.out | apply below_alloc | apply pw_below_drewN | apply below_drew1) | exact HB.out)⟩⟩
                    case round =>
                      clear H'
                      try clear c1
                      try clear p1
                      try clear q1
                      try clear hx1
                      try clear p2
                      try clear c3
                      try clear c3b0
                      try clear c5
                      try clear c5b0
                      try clear c6
                      try clear c6b0
                      try clear p6
                      try clear p7
                      try clear q7
                      try clear hx7
                      try clear c10
                      try clear c10b0
                      try clear c11
                      try clear c11b0
                      try clear p12
                      try clear q12
                      try clear hx12
                      try clear c13
                      try clear c13b0
                      try clear c13b1
                      try clear c14
                      try clear c14b0
                      try clear c17
                      try clear c17b0
                      try clear c17b1
                      try clear c18
                      try clear hx124_0
                      try clear p1
                      try clear p12
                      try clear p124
                      try clear p2
                      try clear p6
                      try clear p7
                      try clear q1
                      try clear q12
                      try clear q124
                      try clear q7
                      obtain ⟨x10_3, x11_3, rfl, rfl, HA, HK3, HB⟩ := hrel
                      cases gk with
                      | zero => exact absurd HA.out (by simp [sigilref4_escape.l1])
                      | succ k3 =>
                        have H := HA.out
                        clear HA
                        simp only [sigilref4_escape.l1] at H
                        by_cases c19 : x11_3 < 4
                        · rw [if_pos c19] at H
                          have c19b0 : decide (x11_3 < 4) = true := decide_eq_true c19
                          clear c19
                          by_cases c20 : (wrap64 (a1 + x11_3)) < (a0.size : Int)
                          · rw [if_pos c20] at H
                            have c20b0 : decide ((wrap64 (a1 + x11_3)) < (a0.size : Int)) = true := decide_eq_true c20
                            clear c20
                            obtain ⟨ji21, hji21⟩ : ∃ j_ : Int, (wrap64 (a1 + x11_3)) = j_ := ⟨_, rfl⟩
                            replace H : (if 0 ≤ (ji21) then ((sigilref4_hex.f k3 (bt a0 (ji21))).bind fun t125 => (if t125 ≥ 0 then ((sigilref4_hex.f k3 (bt a0 (ji21))).bind fun t126 => (sigilref4_escape.l1 k3 a0 a1 (wrap64 ((wrap64 (x10_3 * 16)) + t126)) (wrap64 (x11_3 + 1)))) else (if x11_3 = 2 then (some (0, 0)) else (some ((x10_3) % 256, x11_3))))) else (none)) = some (r1, r2) := by first | (rw [hji21] at H; exact H) | (simp only [hji21] at H ⊢; exact H)
                            (try rw [hji21] at c20b0)
                            have hji21w : (IntKind.i64.wrap (a1 + x11_3)) = ji21 := (i64_w _).trans hji21
                            by_cases c22 : 0 ≤ (ji21)
                            · rw [if_pos c22] at H
                              have c22b0 : decide (0 ≤ (ji21)) = true := decide_eq_true c22
                              clear c22
                              replace H := Option.bind_eq_some_iff.mp H
                              obtain ⟨t125, A240, H⟩ := H
                              replace H : (if t125 ≥ 0 then ((sigilref4_hex.f k3 (bt a0 (ji21))).bind fun t126 => (sigilref4_escape.l1 k3 a0 a1 (wrap64 ((wrap64 (x10_3 * 16)) + t126)) (wrap64 (x11_3 + 1)))) else (if x11_3 = 2 then (some (0, 0)) else (some ((x10_3) % 256, x11_3)))) = some (r1, r2) := H
                              have A24 := Aside0.mk A240
                              clear A240
                              by_cases c25 : t125 ≥ 0
                              · rw [if_pos c25] at H
                                have c25b0 : decide (0 ≤ t125) = true := decide_eq_true c25
                                clear c25
                                replace H := Option.bind_eq_some_iff.mp H
                                obtain ⟨t126, A270, H⟩ := H
                                replace H : (sigilref4_escape.l1 k3 a0 a1 (wrap64 ((wrap64 (x10_3 * 16)) + t126)) (wrap64 (x11_3 + 1))) = some (r1, r2) := H
                                have A27 := Aside0.mk A270
                                clear A270
                                have H' := Aside0.mk H
                                clear H
                                have p23 : 0 ≤ ((ji21) : Int) := of_decide_eq_true (by first | (with_reducible assumption) | assumption)
                                have q23 : (ji21) < (a0.size : Int) := of_decide_eq_true (by first | (with_reducible assumption) | assumption)
                                have hx23 := bt_at a0 (ji21)
                                replace p23 := eq_true p23
                                replace q23 := eq_true q23
                                go_wp2_with (first | (go_at_call 74; (with_reducible refine (sigilref4_hex.calls k3 (bt a0 (ji21)) t125 _ A24.out).mono ?_); rintro e w' ⟨rfl, ⟨nd, rfl⟩⟩; have p26 : 0 ≤ ((ji21) : Int) := of_decide_eq_true (by first | (with_reducible assumption) | assumption); have q26 : (ji21) < (a0.size : Int) := of_decide_eq_true (by first | (with_reducible assumption) | assumption); have hx26 := bt_at a0 (ji21); replace p26 := eq_true p26; replace q26 := eq_true q26) | ((with_reducible refine gate_callee (f := 74) rfl ?_); refine goesL_ (some 71) rfl rfl Tryd.func74 (by kernel_rfl) rfl #[.int .u8 (bt a0 (ji21))] rfl (by (try simp only [List.map_toArray, List.map_cons, List.map_nil]); first | done | (simp only [hji21]; rfl) | rfl | (simp only [List.length_drop, List.length_take]; rfl)) ?_; (with_reducible refine (sigilref4_hex.calls k3 (bt a0 (ji21)) t126 _ A27.out).mono ?_); rintro e w' ⟨rfl, ⟨nd, rfl⟩⟩; refine ⟨_, rfl, ?_⟩))
                                go_roundg k3
                                case measure => have := HK1.out; have := HJ15.out; have := HK3.out; omega
                                case rel => exact ⟨(wrap64 ((wrap64 (x10_3 * 16)) + t126)), (wrap64 (x11_3 + 1)), (by first | rfl | (simp; done) | (simp [*]; done)), (by first | rfl | (simp; done) | (simp [*]; done)), H', ⟨by have := HK1.out; have := HJ15.out; have := HK3.out; omega⟩, ⟨by repeat (first | (with_reducible first | exact HB.out | apply below_alloc | apply pw_below_drewN | apply below_drew1) | exact HB.out)⟩⟩
                              · rw [if_neg c25] at H
                                have c25b0 : decide (0 ≤ t125) = false := decide_eq_false c25
                                clear c25
                                by_cases c28 : x11_3 = 2
                                · rw [if_pos c28] at H
                                  have c28b0 : (x11_3 == 2) = true := beq_iff_eq.mpr c28
                                  have c28b1 : (x11_3 != 2) = false := bne_eq_false_iff_eq.mpr c28
                                  clear c28
                                  simp only [Option.some.injEq, Prod.mk.injEq] at H
                                  obtain ⟨rfl, rfl⟩ := H
                                  have p23 : 0 ≤ ((ji21) : Int) := of_decide_eq_true (by first | (with_reducible assumption) | assumption)
                                  have q23 : (ji21) < (a0.size : Int) := of_decide_eq_true (by first | (with_reducible assumption) | assumption)
                                  have hx23 := bt_at a0 (ji21)
                                  replace p23 := eq_true p23
                                  replace q23 := eq_true q23
                                  go_wp2_with (first | (go_at_call 74; (with_reducible refine (sigilref4_hex.calls k3 (bt a0 (ji21)) t125 _ A24.out).mono ?_); rintro e w' ⟨rfl, ⟨nd, rfl⟩⟩))
                                  go_ret2
                                  exact ⟨by first | rfl | (simp [errW_none, errW_some] <;> rfl) | (simp only [← hji4, ← hji21]; first | rfl | (simp [errW_none, errW_some] <;> rfl)) | (simp [*, errW_none, errW_some] <;> rfl), by repeat (first | (with_reducible first | exact HB.out | apply below_alloc | apply pw_below_drewN | apply below_drew1) | exact HB.out)⟩
                                · rw [if_neg c28] at H
                                  have c28b0 : (x11_3 == 2) = false := beq_eq_false_iff_ne.mpr c28
                                  have c28b1 : (x11_3 != 2) = true := bne_iff_ne.mpr c28
                                  simp only [Option.some.injEq, Prod.mk.injEq] at H
                                  obtain ⟨rfl, rfl⟩ := H
                                  have p23 : 0 ≤ ((ji21) : Int) := of_decide_eq_true (by first | (with_reducible assumption) | assumption)
                                  have q23 : (ji21) < (a0.size : Int) := of_decide_eq_true (by first | (with_reducible assumption) | assumption)
                                  have hx23 := bt_at a0 (ji21)
                                  replace p23 := eq_true p23
                                  replace q23 := eq_true q23
                                  go_wp2_with (first | (go_at_call 74; (with_reducible refine (sigilref4_hex.calls k3 (bt a0 (ji21)) t125 _ A24.out).mono ?_); rintro e w' ⟨rfl, ⟨nd, rfl⟩⟩))
                                  go_ret2
                                  exact ⟨by first | rfl | (simp [errW_none, errW_some] <;> rfl) | (simp only [← hji4, ← hji21]; first | rfl | (simp [errW_none, errW_some] <;> rfl)) | (simp [*, errW_none, errW_some] <;> rfl), by repeat (first | (with_reducible first | exact HB.out | apply below_alloc | apply pw_below_drewN | apply below_drew1) | exact HB.out)⟩
                            · rw [if_neg c22] at H
                              exact absurd H (by simp)
                          · rw [if_neg c20] at H
                            have c20b0 : decide ((wrap64 (a1 + x11_3)) < (a0.size : Int)) = false := decide_eq_false c20
                            clear c20
                            by_cases c29 : x11_3 = 2
                            · rw [if_pos c29] at H
                              have c29b0 : (x11_3 == 2) = true := beq_iff_eq.mpr c29
                              have c29b1 : (x11_3 != 2) = false := bne_eq_false_iff_eq.mpr c29
                              clear c29
                              simp only [Option.some.injEq, Prod.mk.injEq] at H
                              obtain ⟨rfl, rfl⟩ := H
                              go_wp2
                              go_ret2
                              exact ⟨by first | rfl | (simp [errW_none, errW_some] <;> rfl) | (simp only [← hji4]; first | rfl | (simp [errW_none, errW_some] <;> rfl)) | (simp [*, errW_none, errW_some] <;> rfl), by repeat (first | (with_reducible first | exact HB.out | apply below_alloc | apply pw_below_drewN | apply below_drew1) | exact HB.out)⟩
                            · rw [if_neg c29] at H
                              have c29b0 : (x11_3 == 2) = false := beq_eq_false_iff_ne.mpr c29
                              have c29b1 : (x11_3 != 2) = true := bne_iff_ne.mpr c29
                              simp only [Option.some.injEq, Prod.mk.injEq] at H
                              obtain ⟨rfl, rfl⟩ := H
                              go_wp2
                              go_ret2
                              exact ⟨by first | rfl | (simp [errW_none, errW_some] <;> rfl) | (simp only [← hji4]; first | rfl | (simp [errW_none, errW_some] <;> rfl)) | (simp [*, errW_none, errW_some] <;> rfl), by repeat (first | (with_reducible first | exact HB.out | apply below_alloc | apply pw_below_drewN | apply below_drew1) | exact HB.out)⟩
                        · rw [if_neg c19] at H
                          have c19b0 : decide (x11_3 < 4) = false := decide_eq_false c19
                          clear c19
                          by_cases c30 : x11_3 = 2
                          · rw [if_pos c30] at H
                            have c30b0 : (x11_3 == 2) = true := beq_iff_eq.mpr c30
                            have c30b1 : (x11_3 != 2) = false := bne_eq_false_iff_eq.mpr c30
                            clear c30
                            simp only [Option.some.injEq, Prod.mk.injEq] at H
                            obtain ⟨rfl, rfl⟩ := H
                            go_wp2
                            go_ret2
                            exact ⟨by first | rfl | (simp [errW_none, errW_some] <;> rfl) | (simp only [← hji4]; first | rfl | (simp [errW_none, errW_some] <;> rfl)) | (simp [*, errW_none, errW_some] <;> rfl), by repeat (first | (with_reducible first | exact HB.out | apply below_alloc | apply pw_below_drewN | apply below_drew1) | exact HB.out)⟩
                          · rw [if_neg c30] at H
                            have c30b0 : (x11_3 == 2) = false := beq_eq_false_iff_ne.mpr c30
                            have c30b1 : (x11_3 != 2) = true := bne_iff_ne.mpr c30
                            simp only [Option.some.injEq, Prod.mk.injEq] at H
                            obtain ⟨rfl, rfl⟩ := H
                            go_wp2
                            go_ret2
                            exact ⟨by first | rfl | (simp [errW_none, errW_some] <;> rfl) | (simp only [← hji4]; first | rfl | (simp [errW_none, errW_some] <;> rfl)) | (simp [*, errW_none, errW_some] <;> rfl), by repeat (first | (with_reducible first | exact HB.out | apply below_alloc | apply pw_below_drewN | apply below_drew1) | exact HB.out)⟩
                  · replace c18 := Bool.eq_false_iff.mpr c18
                    subst c18
                    have H1 : (sigilref4_escape.l2 kj15 a0 a1 0 1) = some (r1, r2) := by rw [if_neg (show ¬ (false = true) by decide)] at H; exact H
                    clear H
                    have H := H1
                    clear H1
                    have H' := Aside0.mk H
                    clear H
                    go_wp2
                    go_loopg [12, 13] kj15 (fun kq v12 v13 w' => ∃ (x12_3 : Int) (x13_3 : Int), v12 = .int .i64 x12_3 ∧ v13 = .int .i64 x13_3 ∧ Aside0 (sigilref4_escape.l2 kq a0 a1 x12_3 x13_3 = some (r1, r2)) ∧ Aside0 (kq ≤ kj15) ∧ Aside0 (Below w.heap.size w w'))
                    case atStart => exact ⟨(0), (1), (by first | rfl | (simp; done) | (simp [*]; done)), (by first | rfl | (simp; done) | (simp [*]; done)), H', ⟨Nat.le_refl _⟩, ⟨by repeat (first | (with_reducible first | exact HB.out | apply below_alloc | apply pw_below_drewN | apply below_drew1) | exact HB.out)⟩⟩
                    case round =>
                      clear H'
                      try clear c1
                      try clear p1
                      try clear q1
                      try clear hx1
                      try clear c2
                      try clear p2
                      try clear q2
                      try clear hx2
                      try clear c3
                      try clear c3b0
                      try clear c5
                      try clear c5b0
                      try clear c6
                      try clear c6b0
                      try clear p6
                      try clear c7
                      try clear p7
                      try clear q7
                      try clear hx7
                      try clear c10
                      try clear c10b0
                      try clear c11
                      try clear c11b0
                      try clear p12
                      try clear q12
                      try clear hx12
                      try clear c13
                      try clear c13b0
                      try clear c13b1
                      try clear c14
                      try clear c14b0
                      try clear c17
                      try clear c17b0
                      try clear c17b1
                      try clear c18
                      try clear c19
                      try clear c19b0
                      try clear c20
                      try clear c20b0
                      try clear c22
                      try clear c22b0
                      try clear p23
                      try clear q23
                      try clear hx23
                      try clear c25
                      try clear c25b0
                      try clear p26
                      try clear q26
                      try clear hx26
                      try clear c28
                      try clear c28b0
                      try clear c28b1
                      try clear c29
                      try clear c29b0
                      try clear c29b1
                      try clear c30
                      try clear c30b0
                      try clear c30b1
                      try clear hx124_0
                      try clear p1
                      try clear p12
                      try clear p124
                      try clear p2
                      try clear p23
                      try clear p26
                      try clear p6
                      try clear p7
                      try clear q1
                      try clear q12
                      try clear q124
                      try clear q23
                      try clear q26
                      try clear q7
                      obtain ⟨x12_3, x13_3, rfl, rfl, HA, HK3, HB⟩ := hrel
                      cases gk with
                      | zero => exact absurd HA.out (by simp [sigilref4_escape.l2])
                      | succ k3 =>
                        have H := HA.out
                        clear HA
                        simp only [sigilref4_escape.l2] at H
                        by_cases c31 : x13_3 < 4
                        · rw [if_pos c31] at H
                          have c31b0 : decide (x13_3 < 4) = true := decide_eq_true c31
                          clear c31
                          by_cases c32 : (wrap64 (a1 + x13_3)) < (a0.size : Int)
                          · rw [if_pos c32] at H
                            have c32b0 : decide ((wrap64 (a1 + x13_3)) < (a0.size : Int)) = true := decide_eq_true c32
                            clear c32
                            obtain ⟨ji33, hji33⟩ : ∃ j_ : Int, (wrap64 (a1 + x13_3)) = j_ := ⟨_, rfl⟩
                            replace H : (if 0 ≤ (ji33) then ((sigilref4_digit.f (bt a0 (ji33)) 8).bind fun t127 => (if t127 = true then (sigilref4_escape.l2 k3 a0 a1 (wrap64 ((wrap64 (x12_3 * 8)) + (((bt a0 (ji33)) - 48) % 256))) (wrap64 (x13_3 + 1))) else (if x13_3 = 1 then (some (0, 0)) else (if x12_3 > 255 then (some (0, 0)) else (some ((x12_3) % 256, x13_3)))))) else (none)) = some (r1, r2) := by first | (rw [hji33] at H; exact H) | (simp only [hji33] at H ⊢; exact H)
                            (try rw [hji33] at c32b0)
                            have hji33w : (IntKind.i64.wrap (a1 + x13_3)) = ji33 := (i64_w _).trans hji33
                            by_cases c34 : 0 ≤ (ji33)
                            · rw [if_pos c34] at H
                              have c34b0 : decide (0 ≤ (ji33)) = true := decide_eq_true c34
                              clear c34
                              replace H := Option.bind_eq_some_iff.mp H
                              obtain ⟨t127, A360, H⟩ := H
                              replace H : (if t127 = true then (sigilref4_escape.l2 k3 a0 a1 (wrap64 ((wrap64 (x12_3 * 8)) + (((bt a0 (ji33)) - 48) % 256))) (wrap64 (x13_3 + 1))) else (if x13_3 = 1 then (some (0, 0)) else (if x12_3 > 255 then (some (0, 0)) else (some ((x12_3) % 256, x13_3))))) = some (r1, r2) := H
                              have A36 := Aside0.mk A360
                              clear A360
                              by_cases c37 : t127 = true
                              · subst c37
                                have H1 : (sigilref4_escape.l2 k3 a0 a1 (wrap64 ((wrap64 (x12_3 * 8)) + (((bt a0 (ji33)) - 48) % 256))) (wrap64 (x13_3 + 1))) = some (r1, r2) := by rw [if_pos rfl] at H; exact H
                                clear H
                                have H := H1
                                clear H1
                                have H' := Aside0.mk H
                                clear H
                                have p35 : 0 ≤ ((ji33) : Int) := of_decide_eq_true (by first | (with_reducible assumption) | assumption)
                                have q35 : (ji33) < (a0.size : Int) := of_decide_eq_true (by first | (with_reducible assumption) | assumption)
                                have hx35 := bt_at a0 (ji33)
                                replace p35 := eq_true p35
                                replace q35 := eq_true q35
                                go_wp2_with (first | (go_at_call 75; (with_reducible refine (sigilref4_digit.calls (bt a0 (ji33)) 8 true _ A36.out).mono ?_); rintro e w' ⟨rfl, ⟨nd, rfl⟩⟩; have p38 : 0 ≤ ((ji33) : Int) := of_decide_eq_true (by first | (with_reducible assumption) | assumption); have q38 : (ji33) < (a0.size : Int) := of_decide_eq_true (by first | (with_reducible assumption) | assumption); have hx38 := bt_at a0 (ji33); replace p38 := eq_true p38; replace q38 := eq_true q38))
                                go_roundg k3
                                case measure => have := HK1.out; have := HJ15.out; have := HK3.out; omega
                                case rel => exact ⟨(wrap64 ((wrap64 (x12_3 * 8)) + (((bt a0 (ji33)) - 48) % 256))), (wrap64 (x13_3 + 1)), (by first | rfl | (simp; done) | (simp only [← hji33] <;> (first | rfl | simp)) | (simp [*]; done)), (by first | rfl | (simp; done) | (simp [*]; done)), H', ⟨by have := HK1.out; have := HJ15.out; have := HK3.out; omega⟩, ⟨by repeat (first | (with_reducible first | exact HB.out | apply below_alloc | apply pw_below_drewN | apply below_drew1) | exact HB.out)⟩⟩
                              · replace c37 := Bool.eq_false_iff.mpr c37
                                subst c37
                                have H1 : (if x13_3 = 1 then (some (0, 0)) else (if x12_3 > 255 then (some (0, 0)) else (some ((x12_3) % 256, x13_3)))) = some (r1, r2) := by rw [if_neg (show ¬ (false = true) by decide)] at H; exact H
                                clear H
                                have H := H1
                                clear H1
                                by_cases c39 : x13_3 = 1
                                · rw [if_pos c39] at H
                                  have c39b0 : (x13_3 == 1) = true := beq_iff_eq.mpr c39
                                  have c39b1 : (x13_3 != 1) = false := bne_eq_false_iff_eq.mpr c39
                                  clear c39
                                  simp only [Option.some.injEq, Prod.mk.injEq] at H
                                  obtain ⟨rfl, rfl⟩ := H
                                  have p35 : 0 ≤ ((ji33) : Int) := of_decide_eq_true (by first | (with_reducible assumption) | assumption)
                                  have q35 : (ji33) < (a0.size : Int) := of_decide_eq_true (by first | (with_reducible assumption) | assumption)
                                  have hx35 := bt_at a0 (ji33)
                                  replace p35 := eq_true p35
                                  replace q35 := eq_true q35
                                  go_wp2_with (first | (go_at_call 75; (with_reducible refine (sigilref4_digit.calls (bt a0 (ji33)) 8 false _ A36.out).mono ?_); rintro e w' ⟨rfl, ⟨nd, rfl⟩⟩))
                                  go_ret2
                                  exact ⟨by first | rfl | (simp [errW_none, errW_some] <;> rfl) | (simp only [← hji4, ← hji33]; first | rfl | (simp [errW_none, errW_some] <;> rfl)) | (simp [*, errW_none, errW_some] <;> rfl), by repeat (first | (with_reducible first | exact HB.out | apply below_alloc | apply pw_below_drewN | apply below_drew1) | exact HB.out)⟩
                                · rw [if_neg c39] at H
                                  have c39b0 : (x13_3 == 1) = false := beq_eq_false_iff_ne.mpr c39
                                  have c39b1 : (x13_3 != 1) = true := bne_iff_ne.mpr c39
                                  by_cases c40 : x12_3 > 255
                                  · rw [if_pos c40] at H
                                    have c40b0 : decide (255 < x12_3) = true := decide_eq_true c40
                                    clear c40
                                    simp only [Option.some.injEq, Prod.mk.injEq] at H
                                    obtain ⟨rfl, rfl⟩ := H
                                    have p35 : 0 ≤ ((ji33) : Int) := of_decide_eq_true (by first | (with_reducible assumption) | assumption)
                                    have q35 : (ji33) < (a0.size : Int) := of_decide_eq_true (by first | (with_reducible assumption) | assumption)
                                    have hx35 := bt_at a0 (ji33)
                                    replace p35 := eq_true p35
                                    replace q35 := eq_true q35
                                    go_wp2_with (first | (go_at_call 75; (with_reducible refine (sigilref4_digit.calls (bt a0 (ji33)) 8 false _ A36.out).mono ?_); rintro e w' ⟨rfl, ⟨nd, rfl⟩⟩))
                                    go_ret2
                                    exact ⟨by first | rfl | (simp [errW_none, errW_some] <;> rfl) | (simp only [← hji4, ← hji33]; first | rfl | (simp [errW_none, errW_some] <;> rfl)) | (simp [*, errW_none, errW_some] <;> rfl), by repeat (first | (with_reducible first | exact HB.out | apply below_alloc | apply pw_below_drewN | apply below_drew1) | exact HB.out)⟩
                                  · rw [if_neg c40] at H
                                    have c40b0 : decide (255 < x12_3) = false := decide_eq_false c40
                                    clear c40
                                    simp only [Option.some.injEq, Prod.mk.injEq] at H
                                    obtain ⟨rfl, rfl⟩ := H
                                    have p35 : 0 ≤ ((ji33) : Int) := of_decide_eq_true (by first | (with_reducible assumption) | assumption)
                                    have q35 : (ji33) < (a0.size : Int) := of_decide_eq_true (by first | (with_reducible assumption) | assumption)
                                    have hx35 := bt_at a0 (ji33)
                                    replace p35 := eq_true p35
                                    replace q35 := eq_true q35
                                    go_wp2_with (first | (go_at_call 75; (with_reducible refine (sigilref4_digit.calls (bt a0 (ji33)) 8 false _ A36.out).mono ?_); rintro e w' ⟨rfl, ⟨nd, rfl⟩⟩))
                                    go_ret2
                                    exact ⟨by first | rfl | (simp [errW_none, errW_some] <;> rfl) | (simp only [← hji4, ← hji33]; first | rfl | (simp [errW_none, errW_some] <;> rfl)) | (simp [*, errW_none, errW_some] <;> rfl), by repeat (first | (with_reducible first | exact HB.out | apply below_alloc | apply pw_below_drewN | apply below_drew1) | exact HB.out)⟩
                            · rw [if_neg c34] at H
                              exact absurd H (by simp)
                          · rw [if_neg c32] at H
                            have c32b0 : decide ((wrap64 (a1 + x13_3)) < (a0.size : Int)) = false := decide_eq_false c32
                            clear c32
                            by_cases c41 : x13_3 = 1
                            · rw [if_pos c41] at H
                              have c41b0 : (x13_3 == 1) = true := beq_iff_eq.mpr c41
                              have c41b1 : (x13_3 != 1) = false := bne_eq_false_iff_eq.mpr c41
                              clear c41
                              simp only [Option.some.injEq, Prod.mk.injEq] at H
                              obtain ⟨rfl, rfl⟩ := H
                              go_wp2
                              go_ret2
                              exact ⟨by first | rfl | (simp [errW_none, errW_some] <;> rfl) | (simp only [← hji4]; first | rfl | (simp [errW_none, errW_some] <;> rfl)) | (simp [*, errW_none, errW_some] <;> rfl), by repeat (first | (with_reducible first | exact HB.out | apply below_alloc | apply pw_below_drewN | apply below_drew1) | exact HB.out)⟩
                            · rw [if_neg c41] at H
                              have c41b0 : (x13_3 == 1) = false := beq_eq_false_iff_ne.mpr c41
                              have c41b1 : (x13_3 != 1) = true := bne_iff_ne.mpr c41
                              by_cases c42 : x12_3 > 255
                              · rw [if_pos c42] at H
                                have c42b0 : decide (255 < x12_3) = true := decide_eq_true c42
                                clear c42
                                simp only [Option.some.injEq, Prod.mk.injEq] at H
                                obtain ⟨rfl, rfl⟩ := H
                                go_wp2
                                go_ret2
                                exact ⟨by first | rfl | (simp [errW_none, errW_some] <;> rfl) | (simp only [← hji4]; first | rfl | (simp [errW_none, errW_some] <;> rfl)) | (simp [*, errW_none, errW_some] <;> rfl), by repeat (first | (with_reducible first | exact HB.out | apply below_alloc | apply pw_below_drewN | apply below_drew1) | exact HB.out)⟩
                              · rw [if_neg c42] at H
                                have c42b0 : decide (255 < x12_3) = false := decide_eq_false c42
                                clear c42
                                simp only [Option.some.injEq, Prod.mk.injEq] at H
                                obtain ⟨rfl, rfl⟩ := H
                                go_wp2
                                go_ret2
                                exact ⟨by first | rfl | (simp [errW_none, errW_some] <;> rfl) | (simp only [← hji4]; first | rfl | (simp [errW_none, errW_some] <;> rfl)) | (simp [*, errW_none, errW_some] <;> rfl), by repeat (first | (with_reducible first | exact HB.out | apply below_alloc | apply pw_below_drewN | apply below_drew1) | exact HB.out)⟩
                        · rw [if_neg c31] at H
                          have c31b0 : decide (x13_3 < 4) = false := decide_eq_false c31
                          clear c31
                          by_cases c43 : x13_3 = 1
                          · rw [if_pos c43] at H
                            have c43b0 : (x13_3 == 1) = true := beq_iff_eq.mpr c43
                            have c43b1 : (x13_3 != 1) = false := bne_eq_false_iff_eq.mpr c43
                            clear c43
                            simp only [Option.some.injEq, Prod.mk.injEq] at H
                            obtain ⟨rfl, rfl⟩ := H
                            go_wp2
                            go_ret2
                            exact ⟨by first | rfl | (simp [errW_none, errW_some] <;> rfl) | (simp only [← hji4]; first | rfl | (simp [errW_none, errW_some] <;> rfl)) | (simp [*, errW_none, errW_some] <;> rfl), by repeat (first | (with_reducible first | exact HB.out | apply below_alloc | apply pw_below_drewN | apply below_drew1) | exact HB.out)⟩
                          · rw [if_neg c43] at H
                            have c43b0 : (x13_3 == 1) = false := beq_eq_false_iff_ne.mpr c43
                            have c43b1 : (x13_3 != 1) = true := bne_iff_ne.mpr c43
                            by_cases c44 : x12_3 > 255
                            · rw [if_pos c44] at H
                              have c44b0 : decide (255 < x12_3) = true := decide_eq_true c44
                              clear c44
                              simp only [Option.some.injEq, Prod.mk.injEq] at H
                              obtain ⟨rfl, rfl⟩ := H
                              go_wp2
                              go_ret2
                              exact ⟨by first | rfl | (simp [errW_none, errW_some] <;> rfl) | (simp only [← hji4]; first | rfl | (simp [errW_none, errW_some] <;> rfl)) | (simp [*, errW_none, errW_some] <;> rfl), by repeat (first | (with_reducible first | exact HB.out | apply below_alloc | apply pw_below_drewN | apply below_drew1) | exact HB.out)⟩
                            · rw [if_neg c44] at H
                              have c44b0 : decide (255 < x12_3) = false := decide_eq_false c44
                              clear c44
                              simp only [Option.some.injEq, Prod.mk.injEq] at H
                              obtain ⟨rfl, rfl⟩ := H
                              go_wp2
                              go_ret2
                              exact ⟨by first | rfl | (simp [errW_none, errW_some] <;> rfl) | (simp only [← hji4]; first | rfl | (simp [errW_none, errW_some] <;> rfl)) | (simp [*, errW_none, errW_some] <;> rfl), by repeat (first | (with_reducible first | exact HB.out | apply below_alloc | apply pw_below_drewN | apply below_drew1) | exact HB.out)⟩
      · rw [if_neg c6] at H
        exact absurd H (by simp)
    · rw [if_neg c5] at H
      exact absurd H (by simp)

end Go.Proofs.YtabgnbbljjohdaaRDoor.A
