/- Lemmas and walks for the claim; no condition beyond what each states. -/
import Derived.Test.YtbpiahpkbapijaaDoorQ4
section
namespace Go.Proofs.YtbpiahpkbapijaaDoor.J
open Go.RowKit Go.Proofs.YtbpiahpkbapijaaDoorW.PrintWords Go.Proofs.YtbpiahpkbapijaaDoorW.PrintLast Go.Proofs.YtbpiahpkbapijaaDoorW.PrintMore
attribute [local go_sem] max2_int min2_int max_two min_two max_three min_three max_four min_four
set_option linter.unusedVariables false
set_option linter.unusedSimpArgs false
def R_plain.j0 : Nat → Int → Int → Bool → Option (Int)
 | 0, _, _, _ => none
 | k + 1, x0, x3, x4 => if x4 = true then (some (wrap64 (x0))) else (if x3 = 98 then (some 8) else (if x3 = 102 then (some 12) else (if x3 = 110 then (some 10) else (if x3 = 114 then (some 13) else (if x3 = 116 then (some 9) else (some (-1)))))))
def R_plain.f (k : Nat) (a0 : Int) : Option (Int) := if a0 = 34 then (R_plain.j0 k a0 a0 (a0 == 34)) else (if a0 = 92 then (R_plain.j0 k a0 a0 (a0 == 92)) else (R_plain.j0 k a0 a0 (a0 == 47)))
theorem R_plain.mono_l : ∀ k, (∀ y0 y1 y2, LeO (R_plain.j0 k y0 y1 y2) (R_plain.j0 (k + 1) y0 y1 y2))
 | 0 => fun _ _ _ r h => by simp [R_plain.j0] at h
 | k + 1 => by
  have ih0 := R_plain.mono_l k
  ·intro y0 y1 y2
   unfold R_plain.j0
   repeat' first
   | (with_reducible exact ih0 _ _ _)
   | (with_reducible exact LeO.refl _)
   | (with_reducible exact LeO.none _)
   | (with_reducible refine LeO.ite ?_ ?_)
   | (with_reducible refine LeO.bind ?_ (fun _ => ?_))
   | exact ih0 _ _ _
   | exact LeO.none _
   | refine LeO.ite ?_ ?_
   | refine LeO.bind ?_ (fun _ => ?_)
theorem R_plain.mono : ∀ a0 k, LeO (R_plain.f k a0) (R_plain.f (k + 1) a0) := by
 intro a0 k
 have ih0 := R_plain.mono_l k
 unfold R_plain.f
 repeat' first
   | (with_reducible exact ih0 _ _ _)
   | (with_reducible exact LeO.refl _)
   | (with_reducible exact LeO.none _)
   | (with_reducible refine LeO.ite ?_ ?_)
   | (with_reducible refine LeO.bind ?_ (fun _ => ?_))
   | exact ih0 _ _ _
   | exact LeO.none _
   | refine LeO.ite ?_ ?_
   | refine LeO.bind ?_ (fun _ => ?_)
set_option maxHeartbeats 8000000 in
set_option maxRecDepth 100000 in
theorem R_plain.calls (k : Nat) (a0 : Int) (r : Int) (w : World) (h : R_plain.f k a0 = some r) :
  Calls Tryd.prog 78 #[.int .u8 a0] w fun e w' => e = .returned (.int .i64 r) ∧ Drawn0 w w' := by
 have H : (if a0 = 34 then (R_plain.j0 k a0 a0 (a0 == 34)) else (if a0 = 92 then (R_plain.j0 k a0 a0 (a0 == 92)) else (R_plain.j0 k a0 a0 (a0 == 47)))) = some r := h
 clear h
 have HC2 := yM H
 clear H
 go_enter Tryd.func78, Tryd.ntmps78
 go_upto_if 4 with (fail)
 go_cut [4] (fun v4 wc => ∃ (kq : Nat) (x4_1 : Bool), v4 = .bool x4_1 ∧ Aside0 (R_plain.j0 kq a0 a0 x4_1 = some r) ∧ Aside0 (kq ≤ k) ∧ Drawn0 w wc)
 case first =>
  have H := HC2.out
  clear HC2
  by_cases c3 : a0 = 34
  ·rw [if_pos c3] at H
   have c3b0 : (a0 == 34) = true := beq_iff_eq.mpr c3
   have c3b1 : (a0 != 34) = false := bne_eq_false_iff_eq.mpr c3
   clear c3
   (first | rw [c3b0] | (simp only [i64_w, i32_w]; rw [c3b0]) | skip)
   have H' := yM H
   clear H
   go_wp2
   go_meet
   case rel => exact ⟨_, ((a0 == 34)), (by first | rfl | (simp; done) | (simp [*]; done)), H', ⟨by first | omega | exact Nat.le_refl _⟩, by repeat (first | exact Drawn0.refl _ | apply Drawn0.step)⟩
  ·rw [if_neg c3] at H
   have c3b0 : (a0 == 34) = false := yB c3
   have c3b1 : (a0 != 34) = true := bne_iff_ne.mpr c3
   (first | rw [c3b0] | (simp only [i64_w, i32_w]; rw [c3b0]) | skip)
   by_cases c4 : a0 = 92
   ·rw [if_pos c4] at H
    have c4b0 : (a0 == 92) = true := beq_iff_eq.mpr c4
    have c4b1 : (a0 != 92) = false := bne_eq_false_iff_eq.mpr c4
    clear c4
    have H' := yM H
    clear H
    go_wp2
    go_meet
    case rel => exact ⟨_, ((a0 == 92)), (by first | rfl | (simp; done) | (simp [*]; done)), H', ⟨by first | omega | exact Nat.le_refl _⟩, by repeat (first | exact Drawn0.refl _ | apply Drawn0.step)⟩
   ·rw [if_neg c4] at H
    have c4b0 : (a0 == 92) = false := yB c4
    have c4b1 : (a0 != 92) = true := bne_iff_ne.mpr c4
    have H' := yM H
    clear H
    go_wp2
    go_meet
    case rel => exact ⟨_, ((a0 == 47)), (by first | rfl | (simp; done) | (simp [*]; done)), H', ⟨by first | omega | exact Nat.le_refl _⟩, by repeat (first | exact Drawn0.refl _ | apply Drawn0.step)⟩
 case rest =>
  clear HC2
  obtain ⟨kq, x4_1, rfl, HA, HJ1, ⟨mc1, rfl⟩⟩ := hcut
  cases kq with
  | zero => exact absurd HA.out (by simp [R_plain.j0])
  | succ kj1 =>
   have H := HA.out
   clear HA
   simp only [R_plain.j0] at H
   by_cases c5 : x4_1 = true
   ·subst c5
    have H1 : (some (wrap64 (a0))) = some r := by rw [if_pos rfl] at H; exact H
    clear H
    have H := H1
    clear H1
    obtain rfl := Option.some.inj H
    go_wp2
    go_ret
    exact ⟨by first | rfl | (simp; done) | (simp [*]; done), by repeat (first | exact Drawn0.refl _ | apply Drawn0.step)⟩
   ·replace c5 := Bool.eq_false_iff.mpr c5
    subst c5
    have H1 : (if a0 = 98 then (some 8) else (if a0 = 102 then (some 12) else (if a0 = 110 then (some 10) else (if a0 = 114 then (some 13) else (if a0 = 116 then (some 9) else (some (-1))))))) = some r := by rw [if_neg (show ¬ (false = true) by decide)] at H; exact H
    clear H
    have H := H1
    clear H1
    by_cases c6 : a0 = 98
    ·rw [if_pos c6] at H
     have c6b0 : (a0 == 98) = true := beq_iff_eq.mpr c6
     have c6b1 : (a0 != 98) = false := bne_eq_false_iff_eq.mpr c6
     clear c6
     obtain rfl := Option.some.inj H
     go_wp2
     go_ret
     exact ⟨by first | rfl | (simp; done) | (simp [*]; done), by repeat (first | exact Drawn0.refl _ | apply Drawn0.step)⟩
    ·rw [if_neg c6] at H
     have c6b0 : (a0 == 98) = false := yB c6
     have c6b1 : (a0 != 98) = true := bne_iff_ne.mpr c6
     by_cases c7 : a0 = 102
     ·rw [if_pos c7] at H
      have c7b0 : (a0 == 102) = true := beq_iff_eq.mpr c7
      have c7b1 : (a0 != 102) = false := bne_eq_false_iff_eq.mpr c7
      clear c7
      obtain rfl := Option.some.inj H
      go_wp2
      go_ret
      exact ⟨by first | rfl | (simp; done) | (simp [*]; done), by repeat (first | exact Drawn0.refl _ | apply Drawn0.step)⟩
     ·rw [if_neg c7] at H
      have c7b0 : (a0 == 102) = false := yB c7
      have c7b1 : (a0 != 102) = true := bne_iff_ne.mpr c7
      by_cases c8 : a0 = 110
      ·rw [if_pos c8] at H
       have c8b0 : (a0 == 110) = true := beq_iff_eq.mpr c8
       have c8b1 : (a0 != 110) = false := bne_eq_false_iff_eq.mpr c8
       clear c8
       obtain rfl := Option.some.inj H
       go_wp2
       go_ret
       exact ⟨by first | rfl | (simp; done) | (simp [*]; done), by repeat (first | exact Drawn0.refl _ | apply Drawn0.step)⟩
      ·rw [if_neg c8] at H
       have c8b0 : (a0 == 110) = false := yB c8
       have c8b1 : (a0 != 110) = true := bne_iff_ne.mpr c8
       by_cases c9 : a0 = 114
       ·rw [if_pos c9] at H
        have c9b0 : (a0 == 114) = true := beq_iff_eq.mpr c9
        have c9b1 : (a0 != 114) = false := bne_eq_false_iff_eq.mpr c9
        clear c9
        obtain rfl := Option.some.inj H
        go_wp2
        go_ret
        exact ⟨by first | rfl | (simp; done) | (simp [*]; done), by repeat (first | exact Drawn0.refl _ | apply Drawn0.step)⟩
       ·rw [if_neg c9] at H
        have c9b0 : (a0 == 114) = false := yB c9
        have c9b1 : (a0 != 114) = true := bne_iff_ne.mpr c9
        by_cases c10 : a0 = 116
        ·rw [if_pos c10] at H
         have c10b0 : (a0 == 116) = true := beq_iff_eq.mpr c10
         have c10b1 : (a0 != 116) = false := bne_eq_false_iff_eq.mpr c10
         clear c10
         obtain rfl := Option.some.inj H
         go_wp2
         go_ret
         exact ⟨by first | rfl | (simp; done) | (simp [*]; done), by repeat (first | exact Drawn0.refl _ | apply Drawn0.step)⟩
        ·rw [if_neg c10] at H
         have c10b0 : (a0 == 116) = false := yB c10
         have c10b1 : (a0 != 116) = true := bne_iff_ne.mpr c10
         obtain rfl := Option.some.inj H
         go_wp2
         go_ret
         exact ⟨by first | rfl | (simp; done) | (simp [*]; done), by repeat (first | exact Drawn0.refl _ | apply Drawn0.step)⟩
mutual
def T_hex.l0 : Nat → Int → Int → Int → ByteArray → Int → Int → Int → Option (Int × ByteArray × Int × Int × Int)
 | 0, _, _, _, _, _, _, _ => none
 | k + 1, x1, x5, x6, x1000, x1001, x1002, x1003 => if x6 < 4 then (if 0 ≤ (wrap64 (x1 + x6)) then (if (wrap64 (x1 + x6)) < (x1000.size : Int) then (if (bt x1000 (wrap64 (x1 + x6))) ≥ 48 then (T_hex.j1 k x1 x5 x6 (bt x1000 (wrap64 (x1 + x6))) (decide ((bt x1000 (wrap64 (x1 + x6))) ≤ 57)) x1000 x1001 x1002 x1003) else (T_hex.j1 k x1 x5 x6 (bt x1000 (wrap64 (x1 + x6))) false x1000 x1001 x1002 x1003)) else (none)) else (none)) else (some (x5, x1000, x1001, x1002, x1003))
def T_hex.j1 : Nat → Int → Int → Int → Int → Bool → ByteArray → Int → Int → Int → Option (Int × ByteArray × Int × Int × Int)
 | 0, _, _, _, _, _, _, _, _, _ => none
 | k + 1, x1, x5, x6, x7, x28, x1000, x1001, x1002, x1003 => if x28 = true then (T_hex.l0 k x1 (wrap64 ((wrap64 (16 * x5)) + ((x7 - 48) % 256))) (wrap64 (x6 + 1)) x1000 x1001 x1002 x1003) else (if x7 ≥ 97 then (T_hex.j2 k x1 x5 x6 x7 (decide (x7 ≤ 102)) x1000 x1001 x1002 x1003) else (T_hex.j2 k x1 x5 x6 x7 false x1000 x1001 x1002 x1003))
def T_hex.j2 : Nat → Int → Int → Int → Int → Bool → ByteArray → Int → Int → Int → Option (Int × ByteArray × Int × Int × Int)
 | 0, _, _, _, _, _, _, _, _, _ => none
 | k + 1, x1, x5, x6, x7, x41, x1000, x1001, x1002, x1003 => if x41 = true then (T_hex.l0 k x1 (wrap64 ((wrap64 ((wrap64 (16 * x5)) + ((x7 - 97) % 256))) + 10)) (wrap64 (x6 + 1)) x1000 x1001 x1002 x1003) else (if x7 ≥ 65 then (if x7 ≤ 70 then (T_hex.l0 k x1 (wrap64 ((wrap64 ((wrap64 (16 * x5)) + ((x7 - 65) % 256))) + 10)) (wrap64 (x6 + 1)) x1000 x1001 x1002 x1003) else (some ((-1), x1000, x1001, x1002, x1003))) else (some ((-1), x1000, x1001, x1002, x1003)))
end
def T_hex.f (k : Nat) (s0_0 : ByteArray) (s0_1 : Int) (s0_2 : Int) (s0_3 : Int) (a1 : Int) : Option (Int × ByteArray × Int × Int × Int) := if (wrap64 (a1 + 4)) > (s0_0.size : Int) then (some ((-1), s0_0, s0_1, s0_2, s0_3)) else (T_hex.l0 k a1 0 0 s0_0 s0_1 s0_2 s0_3)
set_option maxHeartbeats 8000000 in
set_option maxRecDepth 100000 in
theorem T_hex.calls (k : Nat) (g : Nat) (s0_0 : ByteArray) (s0_1 : Int) (s0_2 : Int) (s0_3 : Int) (a1 : Int) (r1 : Int) (r2 : ByteArray) (r3 : Int) (r4 : Int) (r5 : Int) (w0 w : World) (hI : IsS79 w0 w g s0_0 s0_1 s0_2 s0_3) (hB : Below w0.heap.size w0 w) (h : T_hex.f k s0_0 s0_1 s0_2 s0_3 a1 = some (r1, r2, r3, r4, r5)) :
  Calls Tryd.prog 79 #[.pointer (some ⟨g, 0, none⟩), .int .i64 a1] w fun e w' => e = .returned (.int .i64 r1) ∧ IsS79 w0 w' g r2 r3 r4 r5 ∧ Below w0.heap.size w0 w' ∧ KeepBut w w' g none := by
 have HI0 := yM hI
 have HK := yM (KeepBut.refl w g none)
 have HL := yM hB.size
 clear hI
 have HW0 := yM hB.size
 have HB := yM hB
 clear hB
 have H : (if (wrap64 (a1 + 4)) > (s0_0.size : Int) then (some ((-1), s0_0, s0_1, s0_2, s0_3)) else (T_hex.l0 k a1 0 0 s0_0 s0_1 s0_2 s0_3)) = some (r1, r2, r3, r4, r5) := h
 clear h
 by_cases c3 : (wrap64 (a1 + 4)) > (s0_0.size : Int)
 ·rw [if_pos c3] at H
  have c3b0 : decide ((s0_0.size : Int) < (wrap64 (a1 + 4))) = true := decide_eq_true c3
  clear c3
  simp only [Option.some.injEq, Prod.mk.injEq] at H
  obtain ⟨rfl, rfl, rfl, rfl, rfl⟩ := H
  obtain ⟨HGz4, hgz4⟩ := HI0.out
  have hcz4_0 := cellS79_0 HGz4
  have hcz4_1 := cellS79_1 HGz4
  have hcz4_2 := cellS79_2 HGz4
  have hcz4_3 := cellS79_3 HGz4
  have hfz4_0 := yF HGz4 0
  have hfz4_1 := yF HGz4 1
  have hfz4_2 := yF HGz4 2
  have hfz4_3 := yF HGz4 3
  clear HGz4 hgz4
  go_enter Tryd.func79, Tryd.ntmps79
  go_wp2
  go_ret
  exact ⟨by first | rfl | (simp [errW_none, errW_some] <;> rfl) | (simp [*, errW_none, errW_some] <;> rfl), by repeat (first | (with_reducible first | exact HI0.out | apply wA | apply wN | apply wD | apply w_0 | apply w_1 | apply w_2 | apply w_3) | exact HI0.out), by repeat (first | (with_reducible first | exact HB.out | apply zA | apply zN | apply zD | refine zq9 ?_ (wG HI0.out)) | exact HB.out), by repeat (first | (with_reducible first | exact HK.out | apply yK | apply zk | apply zl9 | apply zm) | exact HK.out)⟩
 ·rw [if_neg c3] at H
  have c3b0 : decide ((s0_0.size : Int) < (wrap64 (a1 + 4))) = false := decide_eq_false c3
  clear c3
  have H' := yM H
  clear H
  obtain ⟨HGz5, hgz5⟩ := HI0.out
  have hcz5_0 := cellS79_0 HGz5
  have hcz5_1 := cellS79_1 HGz5
  have hcz5_2 := cellS79_2 HGz5
  have hcz5_3 := cellS79_3 HGz5
  have hfz5_0 := yF HGz5 0
  have hfz5_1 := yF HGz5 1
  have hfz5_2 := yF HGz5 2
  have hfz5_3 := yF HGz5 3
  clear HGz5 hgz5
  go_enter Tryd.func79, Tryd.ntmps79
  go_wp2
  go_loopg [5, 6] k (fun kq v5 v6 w' => ∃ (x5_1 : Int) (x6_1 : Int), v5 = .int .i64 x5_1 ∧ v6 = .int .i64 x6_1 ∧ Aside0 (T_hex.l0 kq a1 x5_1 x6_1 s0_0 s0_1 s0_2 s0_3 = some (r1, r2, r3, r4, r5)) ∧ Aside0 (kq ≤ k) ∧ Aside0 (IsS79 w0 w' g s0_0 s0_1 s0_2 s0_3) ∧ Aside0 (KeepBut w w' g none) ∧ Aside0 (Below w0.heap.size w0 w'))
  case atStart => exact ⟨(0), (0), (by first | rfl | (simp; done) | (simp [*]; done)), (by first | rfl | (simp; done) | (simp [*]; done)), H', ⟨Nat.le_refl _⟩, ⟨by repeat (first | (with_reducible first | exact HI0.out | apply wA | apply wN | apply wD | apply w_0 | apply w_1 | apply w_2 | apply w_3) | exact HI0.out)⟩, ⟨by repeat (first | (with_reducible first | exact HK.out | apply yK | apply zk | apply zl9 | apply zm) | exact HK.out)⟩, ⟨by repeat (first | (with_reducible first | exact HB.out | apply zA | apply zN | apply zD | refine zq9 ?_ (wG HI0.out)) | exact HB.out)⟩⟩
  case round =>
   clear H'
   obtain ⟨x5_1, x6_1, rfl, rfl, HA, HK1, HI0, HK, HB⟩ := hrel
   cases gk with
   | zero => exact absurd HA.out (by simp [T_hex.l0])
   | succ k1 =>
    have H := HA.out
    clear HA
    simp only [T_hex.l0] at H
    by_cases c6 : x6_1 < 4
    ·rw [if_pos c6] at H
     have c6b0 : decide (x6_1 < 4) = true := decide_eq_true c6
     clear c6
     obtain ⟨ji7, hji7⟩ : ∃ j_ : Int, (wrap64 (a1 + x6_1)) = j_ := ⟨_, rfl⟩
     replace H : (if 0 ≤ (ji7) then (if (ji7) < (s0_0.size : Int) then (if (bt s0_0 (ji7)) ≥ 48 then (T_hex.j1 k1 a1 x5_1 x6_1 (bt s0_0 (ji7)) (decide ((bt s0_0 (ji7)) ≤ 57)) s0_0 s0_1 s0_2 s0_3) else (T_hex.j1 k1 a1 x5_1 x6_1 (bt s0_0 (ji7)) false s0_0 s0_1 s0_2 s0_3)) else (none)) else (none)) = some (r1, r2, r3, r4, r5) := by first | (rw [hji7] at H; exact H) | (simp only [hji7] at H ⊢; exact H)
     have hji7w : (IntKind.i64.wrap (a1 + x6_1)) = ji7 := (i64_w _).trans hji7
     by_cases c8 : 0 ≤ (ji7)
     ·rw [if_pos c8] at H
      have c8b0 : decide (0 ≤ (ji7)) = true := decide_eq_true c8
      clear c8
      by_cases c9 : (ji7) < (s0_0.size : Int)
      ·rw [if_pos c9] at H
       have c9b0 : decide ((ji7) < (s0_0.size : Int)) = true := decide_eq_true c9
       clear c9
       have HC11 := yM H
       clear H
       obtain ⟨HGz12, hgz12⟩ := HI0.out
       have hcz12_0 := cellS79_0 HGz12
       have hcz12_1 := cellS79_1 HGz12
       have hcz12_2 := cellS79_2 HGz12
       have hcz12_3 := cellS79_3 HGz12
       have hfz12_0 := yF HGz12 0
       have hfz12_1 := yF HGz12 1
       have hfz12_2 := yF HGz12 2
       have hfz12_3 := yF HGz12 3
       clear HGz12 hgz12
       have p10 : 0 ≤ ((ji7) : Int) := yQ (by first | (with_reducible assumption) | assumption)
       have q10 : (ji7) < (s0_0.size : Int) := yQ (by first | (with_reducible assumption) | assumption)
       have hx10 := bt_at s0_0 (ji7)
       replace p10 := eq_true p10
       replace q10 := eq_true q10
       go_upto_region 9 with (fail)
       go_cut [28] (fun v28 wc => ∃ (kq : Nat) (x28_10 : Bool), v28 = .bool x28_10 ∧ Aside0 (T_hex.j1 kq a1 x5_1 x6_1 (bt s0_0 (ji7)) x28_10 s0_0 s0_1 s0_2 s0_3 = some (r1, r2, r3, r4, r5)) ∧ Aside0 (kq ≤ k1) ∧ Aside0 (IsS79 w0 wc g s0_0 s0_1 s0_2 s0_3) ∧ Aside0 (KeepBut w wc g none) ∧ Aside0 (Below w0.heap.size w0 wc))
       case first =>
        have H := HC11.out
        clear HC11
        by_cases c13 : (bt s0_0 (ji7)) ≥ 48
        ·rw [if_pos c13] at H
         have c13b0 : decide (48 ≤ (bt s0_0 (ji7))) = true := decide_eq_true c13
         clear c13
         (first | rw [c13b0] | (simp only [i64_w, i32_w]; rw [c13b0]) | skip)
         have H' := yM H
         clear H
         go_wp2
         go_meet
         case rel => exact ⟨_, (decide ((bt s0_0 (ji7)) ≤ 57)), (by first | rfl | (simp; done) | (simp only [← hji7] <;> (first | rfl | simp)) | (simp [*]; done)), H', ⟨by have := HK1.out; first | omega | exact Nat.le_refl _⟩, ⟨by repeat (first | (with_reducible first | exact HI0.out | apply wA | apply wN | apply wD | apply w_0 | apply w_1 | apply w_2 | apply w_3) | exact HI0.out)⟩, ⟨by repeat (first | (with_reducible first | exact HK.out | apply yK | apply zk | apply zl9 | apply zm) | exact HK.out)⟩, ⟨by repeat (first | (with_reducible first | exact HB.out | apply zA | apply zN | apply zD | refine zq9 ?_ (wG HI0.out)) | exact HB.out)⟩⟩
        ·rw [if_neg c13] at H
         have c13b0 : decide (48 ≤ (bt s0_0 (ji7))) = false := decide_eq_false c13
         clear c13
         (first | rw [c13b0] | (simp only [i64_w, i32_w]; rw [c13b0]) | skip)
         have H' := yM H
         clear H
         go_wp2
         go_meet
         case rel => exact ⟨_, (false), (by first | rfl | (simp; done) | (simp [*]; done)), H', ⟨by have := HK1.out; first | omega | exact Nat.le_refl _⟩, ⟨by repeat (first | (with_reducible first | exact HI0.out | apply wA | apply wN | apply wD | apply w_0 | apply w_1 | apply w_2 | apply w_3) | exact HI0.out)⟩, ⟨by repeat (first | (with_reducible first | exact HK.out | apply yK | apply zk | apply zl9 | apply zm) | exact HK.out)⟩, ⟨by repeat (first | (with_reducible first | exact HB.out | apply zA | apply zN | apply zD | refine zq9 ?_ (wG HI0.out)) | exact HB.out)⟩⟩
       case rest =>
        clear HC11
        obtain ⟨kq, x28_10, rfl, HA, HJ10, HI0, HK, HB⟩ := hcut
        cases kq with
        | zero => exact absurd HA.out (by simp [T_hex.j1])
        | succ kj10 =>
         have H := HA.out
         clear HA
         simp only [T_hex.j1] at H
         by_cases c14 : x28_10 = true
         ·subst c14
          have H1 : (T_hex.l0 kj10 a1 (wrap64 ((wrap64 (16 * x5_1)) + (((bt s0_0 (ji7)) - 48) % 256))) (wrap64 (x6_1 + 1)) s0_0 s0_1 s0_2 s0_3) = some (r1, r2, r3, r4, r5) := by rw [if_pos rfl] at H; exact H
          clear H
          have H := H1
          clear H1
          have H' := yM H
          clear H
          go_wp2
          go_roundg kj10
          case measure => have := HK1.out; have := HJ10.out; omega
          case rel => exact ⟨(wrap64 ((wrap64 (16 * x5_1)) + (((bt s0_0 (ji7)) - 48) % 256))), (wrap64 (x6_1 + 1)), (by first | rfl | (simp; done) | (simp only [← hji7] <;> (first | rfl | simp)) | (simp [*]; done)), (by first | rfl | (simp; done) | (simp [*]; done)), H', ⟨by have := HK1.out; have := HJ10.out; omega⟩, ⟨by repeat (first | (with_reducible first | exact HI0.out | apply wA | apply wN | apply wD | apply w_0 | apply w_1 | apply w_2 | apply w_3) | exact HI0.out)⟩, ⟨by repeat (first | (with_reducible first | exact HK.out | apply yK | apply zk | apply zl9 | apply zm) | exact HK.out)⟩, ⟨by repeat (first | (with_reducible first | exact HB.out | apply zA | apply zN | apply zD | refine zq9 ?_ (wG HI0.out)) | exact HB.out)⟩⟩
         ·replace c14 := Bool.eq_false_iff.mpr c14
          subst c14
          have H1 : (if (bt s0_0 (ji7)) ≥ 97 then (T_hex.j2 kj10 a1 x5_1 x6_1 (bt s0_0 (ji7)) (decide ((bt s0_0 (ji7)) ≤ 102)) s0_0 s0_1 s0_2 s0_3) else (T_hex.j2 kj10 a1 x5_1 x6_1 (bt s0_0 (ji7)) false s0_0 s0_1 s0_2 s0_3)) = some (r1, r2, r3, r4, r5) := by rw [if_neg (show ¬ (false = true) by decide)] at H; exact H
          clear H
          have H := H1
          clear H1
          have HC15 := yM H
          clear H
          go_upto_region 11 with (fail)
          go_cut [41] (fun v41 wc => ∃ (kq : Nat) (x41_14 : Bool), v41 = .bool x41_14 ∧ Aside0 (T_hex.j2 kq a1 x5_1 x6_1 (bt s0_0 (ji7)) x41_14 s0_0 s0_1 s0_2 s0_3 = some (r1, r2, r3, r4, r5)) ∧ Aside0 (kq ≤ kj10) ∧ Aside0 (IsS79 w0 wc g s0_0 s0_1 s0_2 s0_3) ∧ Aside0 (KeepBut w wc g none) ∧ Aside0 (Below w0.heap.size w0 wc))
          case first =>
           have H := HC15.out
           clear HC15
           by_cases c16 : (bt s0_0 (ji7)) ≥ 97
           ·rw [if_pos c16] at H
            have c16b0 : decide (97 ≤ (bt s0_0 (ji7))) = true := decide_eq_true c16
            clear c16
            (first | rw [c16b0] | (simp only [i64_w, i32_w]; rw [c16b0]) | skip)
            have H' := yM H
            clear H
            go_wp2
            go_meet
            case rel => exact ⟨_, (decide ((bt s0_0 (ji7)) ≤ 102)), (by first | rfl | (simp; done) | (simp only [← hji7] <;> (first | rfl | simp)) | (simp [*]; done)), H', ⟨by have := HK1.out; have := HJ10.out; first | omega | exact Nat.le_refl _⟩, ⟨by repeat (first | (with_reducible first | exact HI0.out | apply wA | apply wN | apply wD | apply w_0 | apply w_1 | apply w_2 | apply w_3) | exact HI0.out)⟩, ⟨by repeat (first | (with_reducible first | exact HK.out | apply yK | apply zk | apply zl9 | apply zm) | exact HK.out)⟩, ⟨by repeat (first | (with_reducible first | exact HB.out | apply zA | apply zN | apply zD | refine zq9 ?_ (wG HI0.out)) | exact HB.out)⟩⟩
           ·rw [if_neg c16] at H
            have c16b0 : decide (97 ≤ (bt s0_0 (ji7))) = false := decide_eq_false c16
            clear c16
            (first | rw [c16b0] | (simp only [i64_w, i32_w]; rw [c16b0]) | skip)
            have H' := yM H
            clear H
            go_wp2
            go_meet
            case rel => exact ⟨_, (false), (by first | rfl | (simp; done) | (simp [*]; done)), H', ⟨by have := HK1.out; have := HJ10.out; first | omega | exact Nat.le_refl _⟩, ⟨by repeat (first | (with_reducible first | exact HI0.out | apply wA | apply wN | apply wD | apply w_0 | apply w_1 | apply w_2 | apply w_3) | exact HI0.out)⟩, ⟨by repeat (first | (with_reducible first | exact HK.out | apply yK | apply zk | apply zl9 | apply zm) | exact HK.out)⟩, ⟨by repeat (first | (with_reducible first | exact HB.out | apply zA | apply zN | apply zD | refine zq9 ?_ (wG HI0.out)) | exact HB.out)⟩⟩
          case rest =>
           clear HC15
           obtain ⟨kq, x41_14, rfl, HA, HJ14, HI0, HK, HB⟩ := hcut
           cases kq with
           | zero => exact absurd HA.out (by simp [T_hex.j2])
           | succ kj14 =>
            have H := HA.out
            clear HA
            simp only [T_hex.j2] at H
            by_cases c17 : x41_14 = true
            ·subst c17
             have H1 : (T_hex.l0 kj14 a1 (wrap64 ((wrap64 ((wrap64 (16 * x5_1)) + (((bt s0_0 (ji7)) - 97) % 256))) + 10)) (wrap64 (x6_1 + 1)) s0_0 s0_1 s0_2 s0_3) = some (r1, r2, r3, r4, r5) := by rw [if_pos rfl] at H; exact H
             clear H
             have H := H1
             clear H1
             have H' := yM H
             clear H
             go_wp2
             go_roundg kj14
             case measure => have := HK1.out; have := HJ10.out; have := HJ14.out; omega
             case rel => exact ⟨(wrap64 ((wrap64 ((wrap64 (16 * x5_1)) + (((bt s0_0 (ji7)) - 97) % 256))) + 10)), (wrap64 (x6_1 + 1)), (by first | rfl | (simp; done) | (simp only [← hji7] <;> (first | rfl | simp)) | (simp [*]; done)), (by first | rfl | (simp; done) | (simp [*]; done)), H', ⟨by have := HK1.out; have := HJ10.out; have := HJ14.out; omega⟩, ⟨by repeat (first | (with_reducible first | exact HI0.out | apply wA | apply wN | apply wD | apply w_0 | apply w_1 | apply w_2 | apply w_3) | exact HI0.out)⟩, ⟨by repeat (first | (with_reducible first | exact HK.out | apply yK | apply zk | apply zl9 | apply zm) | exact HK.out)⟩, ⟨by repeat (first | (with_reducible first | exact HB.out | apply zA | apply zN | apply zD | refine zq9 ?_ (wG HI0.out)) | exact HB.out)⟩⟩
            ·replace c17 := Bool.eq_false_iff.mpr c17
             subst c17
             have H1 : (if (bt s0_0 (ji7)) ≥ 65 then (if (bt s0_0 (ji7)) ≤ 70 then (T_hex.l0 kj14 a1 (wrap64 ((wrap64 ((wrap64 (16 * x5_1)) + (((bt s0_0 (ji7)) - 65) % 256))) + 10)) (wrap64 (x6_1 + 1)) s0_0 s0_1 s0_2 s0_3) else (some ((-1), s0_0, s0_1, s0_2, s0_3))) else (some ((-1), s0_0, s0_1, s0_2, s0_3))) = some (r1, r2, r3, r4, r5) := by rw [if_neg (show ¬ (false = true) by decide)] at H; exact H
             clear H
             have H := H1
             clear H1
             by_cases c18 : (bt s0_0 (ji7)) ≥ 65
             ·rw [if_pos c18] at H
              have c18b0 : decide (65 ≤ (bt s0_0 (ji7))) = true := decide_eq_true c18
              clear c18
              by_cases c19 : (bt s0_0 (ji7)) ≤ 70
              ·rw [if_pos c19] at H
               have c19b0 : decide ((bt s0_0 (ji7)) ≤ 70) = true := decide_eq_true c19
               clear c19
               have H' := yM H
               clear H
               go_wp2
               go_roundg kj14
               case measure => have := HK1.out; have := HJ10.out; have := HJ14.out; omega
               case rel => exact ⟨(wrap64 ((wrap64 ((wrap64 (16 * x5_1)) + (((bt s0_0 (ji7)) - 65) % 256))) + 10)), (wrap64 (x6_1 + 1)), (by first | rfl | (simp; done) | (simp only [← hji7] <;> (first | rfl | simp)) | (simp [*]; done)), (by first | rfl | (simp; done) | (simp [*]; done)), H', ⟨by have := HK1.out; have := HJ10.out; have := HJ14.out; omega⟩, ⟨by repeat (first | (with_reducible first | exact HI0.out | apply wA | apply wN | apply wD | apply w_0 | apply w_1 | apply w_2 | apply w_3) | exact HI0.out)⟩, ⟨by repeat (first | (with_reducible first | exact HK.out | apply yK | apply zk | apply zl9 | apply zm) | exact HK.out)⟩, ⟨by repeat (first | (with_reducible first | exact HB.out | apply zA | apply zN | apply zD | refine zq9 ?_ (wG HI0.out)) | exact HB.out)⟩⟩
              ·rw [if_neg c19] at H
               have c19b0 : decide ((bt s0_0 (ji7)) ≤ 70) = false := decide_eq_false c19
               clear c19
               simp only [Option.some.injEq, Prod.mk.injEq] at H
               obtain ⟨rfl, rfl, rfl, rfl, rfl⟩ := H
               go_wp2
               go_ret
               exact ⟨by first | rfl | (simp [errW_none, errW_some] <;> rfl) | (simp only [← hji7]; first | rfl | (simp [errW_none, errW_some] <;> rfl)) | (simp [*, errW_none, errW_some] <;> rfl), by repeat (first | (with_reducible first | exact HI0.out | apply wA | apply wN | apply wD | apply w_0 | apply w_1 | apply w_2 | apply w_3) | exact HI0.out), by repeat (first | (with_reducible first | exact HB.out | apply zA | apply zN | apply zD | refine zq9 ?_ (wG HI0.out)) | exact HB.out), by repeat (first | (with_reducible first | exact HK.out | apply yK | apply zk | apply zl9 | apply zm) | exact HK.out)⟩
             ·rw [if_neg c18] at H
              have c18b0 : decide (65 ≤ (bt s0_0 (ji7))) = false := decide_eq_false c18
              clear c18
              simp only [Option.some.injEq, Prod.mk.injEq] at H
              obtain ⟨rfl, rfl, rfl, rfl, rfl⟩ := H
              go_wp2
              go_ret
              exact ⟨by first | rfl | (simp [errW_none, errW_some] <;> rfl) | (simp only [← hji7]; first | rfl | (simp [errW_none, errW_some] <;> rfl)) | (simp [*, errW_none, errW_some] <;> rfl), by repeat (first | (with_reducible first | exact HI0.out | apply wA | apply wN | apply wD | apply w_0 | apply w_1 | apply w_2 | apply w_3) | exact HI0.out), by repeat (first | (with_reducible first | exact HB.out | apply zA | apply zN | apply zD | refine zq9 ?_ (wG HI0.out)) | exact HB.out), by repeat (first | (with_reducible first | exact HK.out | apply yK | apply zk | apply zl9 | apply zm) | exact HK.out)⟩
      ·rw [if_neg c9] at H
       exact absurd H (by simp)
     ·rw [if_neg c8] at H
      exact absurd H (by simp)
    ·rw [if_neg c6] at H
     have c6b0 : decide (x6_1 < 4) = false := decide_eq_false c6
     clear c6
     simp only [Option.some.injEq, Prod.mk.injEq] at H
     obtain ⟨rfl, rfl, rfl, rfl, rfl⟩ := H
     go_wp2
     go_ret
     exact ⟨by first | rfl | (simp [errW_none, errW_some] <;> rfl) | (simp [*, errW_none, errW_some] <;> rfl), by repeat (first | (with_reducible first | exact HI0.out | apply wA | apply wN | apply wD | apply w_0 | apply w_1 | apply w_2 | apply w_3) | exact HI0.out), by repeat (first | (with_reducible first | exact HB.out | apply zA | apply zN | apply zD | refine zq9 ?_ (wG HI0.out)) | exact HB.out), by repeat (first | (with_reducible first | exact HK.out | apply yK | apply zk | apply zl9 | apply zm) | exact HK.out)⟩
def R_character.f (l0 : List Int) (a1 : Int) : Option (List Int) := if a1 < 128 then (if l0.length < 140737488355328 then (some (l0 ++ [(a1) % 256])) else (none)) else (if a1 < 2048 then ((some (([(wrap64 (192 + (wrap64 (Int.tdiv a1 64)))) % 256, (wrap64 (128 + (Int.tmod a1 64))) % 256] : List Int) : List Int)).bind fun y123 => (if l0.length + y123.length < 140737488355328 then (some (l0 ++ y123)) else (none))) else (if a1 < 65536 then ((some (([(wrap64 (224 + (wrap64 (Int.tdiv a1 4096)))) % 256, (wrap64 (128 + (Int.tmod (wrap64 (Int.tdiv a1 64)) 64))) % 256, (wrap64 (128 + (Int.tmod a1 64))) % 256] : List Int) : List Int)).bind fun y129 => (if l0.length + y129.length < 140737488355328 then (some (l0 ++ y129)) else (none))) else ((some (([(wrap64 (240 + (wrap64 (Int.tdiv a1 262144)))) % 256, (wrap64 (128 + (Int.tmod (wrap64 (Int.tdiv a1 4096)) 64))) % 256, (wrap64 (128 + (Int.tmod (wrap64 (Int.tdiv a1 64)) 64))) % 256, (wrap64 (128 + (Int.tmod a1 64))) % 256] : List Int) : List Int)).bind fun y135 => (if l0.length + y135.length < 140737488355328 then (some (l0 ++ y135)) else (none)))))
set_option maxHeartbeats 8000000 in
set_option maxRecDepth 100000 in
theorem R_character.calls (P0_ : Nat → Prop) (u9000_ : Value) (l0 : List Int) (a1 : Int) (r : List Int) (w0 w : World) (hB : Below w0.heap.size w0 w) (ho0 : Kd.R (Kd.int .u8) 5 w w0.heap.size P0_ u9000_ l0) (h : R_character.f l0 a1 = some r) :
  Calls Tryd.prog 80 #[u9000_, .int .i64 a1] w fun e w' => ∃ v0_ : Value, e = .returned (v0_) ∧ Kd.R (Kd.int .u8) 5 w' w0.heap.size (fun k_ => (P0_ k_ ∨ w.heap.size ≤ k_)) v0_ r ∧ Below w0.heap.size w0 w' ∧ Kept w w' (fun k_ => P0_ k_) := by
 have HO0 := yM (show Kd.R (Kd.int .u8) 5 w w0.heap.size (fun k_ => (P0_ k_ ∨ w.heap.size ≤ k_)) u9000_ l0 from Kd.R_mono ho0 (fun k_ hk => (.inl hk)))
 have HK := yM (Kept.refl w (fun k_ => P0_ k_))
 have HW0 := yM hB.size
 have HB := yM hB
 clear hB
 have H : (if a1 < 128 then (if l0.length < 140737488355328 then (some (l0 ++ [(a1) % 256])) else (none)) else (if a1 < 2048 then ((some (([(wrap64 (192 + (wrap64 (Int.tdiv a1 64)))) % 256, (wrap64 (128 + (Int.tmod a1 64))) % 256] : List Int) : List Int)).bind fun y123 => (if l0.length + y123.length < 140737488355328 then (some (l0 ++ y123)) else (none))) else (if a1 < 65536 then ((some (([(wrap64 (224 + (wrap64 (Int.tdiv a1 4096)))) % 256, (wrap64 (128 + (Int.tmod (wrap64 (Int.tdiv a1 64)) 64))) % 256, (wrap64 (128 + (Int.tmod a1 64))) % 256] : List Int) : List Int)).bind fun y129 => (if l0.length + y129.length < 140737488355328 then (some (l0 ++ y129)) else (none))) else ((some (([(wrap64 (240 + (wrap64 (Int.tdiv a1 262144)))) % 256, (wrap64 (128 + (Int.tmod (wrap64 (Int.tdiv a1 4096)) 64))) % 256, (wrap64 (128 + (Int.tmod (wrap64 (Int.tdiv a1 64)) 64))) % 256, (wrap64 (128 + (Int.tmod a1 64))) % 256] : List Int) : List Int)).bind fun y135 => (if l0.length + y135.length < 140737488355328 then (some (l0 ++ y135)) else (none)))))) = some r := h
 clear h
 by_cases c3 : a1 < 128
 ·rw [if_pos c3] at H
  have c3b0 : decide (a1 < 128) = true := decide_eq_true c3
  clear c3
  by_cases c4 : l0.length < 140737488355328
  ·rw [if_pos c4] at H
   have LMc4 := yM c4
   clear c4
   obtain ⟨y120, hy120⟩ : ∃ y_ : List Int, y_ = (l0 ++ [(a1) % 256]) := ⟨_, rfl⟩
   replace H : (some y120) = some r := by first | (rw [hy120]; with_reducible exact H) | (have H2_ := (Option.bind_some _ _).symm.trans H; rw [hy120]; with_reducible exact H2_) | (have H2_ := (Option.bind_some _ _).symm.trans H; with_reducible exact H2_) | with_reducible exact H | (rw [hy120]; exact H) | exact H
   have Ny120 := yM hy120
   clear hy120
   obtain rfl := Option.some.inj H
   go_enter Tryd.func80, Tryd.ntmps80
   go_wp2_with (first | ((with_reducible refine gate_builtin (b := .append) (xs := #[.tmp 8, .tmp 11]) rfl ?_); at_builtin; refine Kd.R_append (Kd.int .u8) (w0 := w0) w0.heap.size rfl (.tmp 8) (.tmp 11) 49 5 (.int .u8 0) 1 rfl Tryd.underlying49 info5 rfl (by decide) (by omega) u9000_ l0 ((a1) % 256) [.int .u8 ((a1) % 256)] (fun k_ => (P0_ k_ ∨ w.heap.size ≤ k_)) (fun _ => False) rfl rfl ?aP (fun _ hk => hk.elim) ?aF ?aO ?aB ?aS ?aL ?_; (case aP => exact rfl); (case aB => exact (by repeat (first | (with_reducible first | exact HB.out | apply zA | apply zN | apply zD) | exact HB.out))); (case aF => exact (fun k_ hk => (.inr (Nat.le_trans (by first | exact HK.out.1 | exact (show Kept w _ (fun k_ => P0_ k_) from by repeat (first | (with_reducible first | exact HK.out | apply Kept.alloc | apply Kept.drewN | apply Kept.drew) | exact HK.out)).1) hk)))); (case aO => exact (by (with_reducible repeat (first | apply Kd.R_alloc | apply Kd.R_drewN | apply Kd.R_drew)); exact HO0.out)); (case aS => exact (below_size (by repeat (first | (with_reducible first | exact HB.out | apply zA | apply zN | apply zD) | exact HB.out)))); (case aL => have := LMc4.out; omega); intro v121 w5 ho hb hg hat; rw [← Ny120.out] at ho; have n0_ := yM (hb); have n1_ := yM (Kept.of_grown (S := (fun k_ => P0_ k_)) hg (by repeat (first | (with_reducible first | exact HK.out | apply Kept.alloc | apply Kept.drewN | apply Kept.drew) | exact HK.out)) (fun k_ e_ => (HO0.out.1 k_ e_))); have n2_ := yM (ho); clear HB; clear HK; clear HO0; have HB := n0_; have HK := n1_; have HO122 := n2_; clear n0_ n1_ n2_; clear ho hb hg hat))
   go_ret
   exact ⟨_, by first | rfl | (simp [errW_none, errW_some] <;> rfl) | (simp [*, errW_none, errW_some] <;> rfl), by (with_reducible repeat (first | apply Kd.R_alloc | apply Kd.R_drewN | apply Kd.R_drew)); exact HO122.out, by repeat (first | (with_reducible first | exact HB.out | apply zA | apply zN | apply zD) | exact HB.out), by repeat (first | (with_reducible first | exact HK.out | apply Kept.alloc | apply Kept.drewN | apply Kept.drew) | exact HK.out)⟩
  ·rw [if_neg c4] at H
   exact absurd H (by simp)
 ·rw [if_neg c3] at H
  have c3b0 : decide (a1 < 128) = false := decide_eq_false c3
  clear c3
  by_cases c6 : a1 < 2048
  ·rw [if_pos c6] at H
   have c6b0 : decide (a1 < 2048) = true := decide_eq_true c6
   clear c6
   obtain ⟨y123, hy123⟩ : ∃ y_ : List Int, y_ = (([(wrap64 (192 + (wrap64 (Int.tdiv a1 64)))) % 256, (wrap64 (128 + (Int.tmod a1 64))) % 256] : List Int)) := ⟨_, rfl⟩
   replace H : (if l0.length + y123.length < 140737488355328 then (some (l0 ++ y123)) else (none)) = some r := by first | (rw [hy123]; with_reducible exact H) | (have H2_ := (Option.bind_some _ _).symm.trans H; rw [hy123]; with_reducible exact H2_) | (have H2_ := (Option.bind_some _ _).symm.trans H; with_reducible exact H2_) | with_reducible exact H | (rw [hy123]; exact H) | exact H
   have Ny123 := yM hy123
   clear hy123
   by_cases c7 : l0.length + y123.length < 140737488355328
   ·rw [if_pos c7] at H
    have LMc7 := yM c7
    clear c7
    obtain ⟨y126, hy126⟩ : ∃ y_ : List Int, y_ = (l0 ++ y123) := ⟨_, rfl⟩
    replace H : (some y126) = some r := by first | (rw [hy126]; with_reducible exact H) | (have H2_ := (Option.bind_some _ _).symm.trans H; rw [hy126]; with_reducible exact H2_) | (have H2_ := (Option.bind_some _ _).symm.trans H; with_reducible exact H2_) | with_reducible exact H | (rw [hy126]; exact H) | exact H
    have Ny126 := yM hy126
    clear hy126
    obtain rfl := Option.some.inj H
    go_enter Tryd.func80, Tryd.ntmps80
    go_wp2_with (first | ((with_reducible refine gate_dst (N := 25) rfl ?_); refine Kd.R_lit (Kd.int .u8) _ 5 ?hg (N := 25) ?hd (xs := ([(wrap64 (192 + (wrap64 (Int.tdiv a1 64)))) % 256, (wrap64 (128 + (Int.tmod a1 64))) % 256] : List Int)) (inner := [.int .u8 ((wrap64 (192 + (wrap64 (Int.tdiv a1 64)))) % 256), .int .u8 ((wrap64 (128 + (Int.tmod a1 64))) % 256)]) (ok := fun _ => True) (okp := fun _ => True) ?hr ?hp (fun _ hk => hk) trivial (Below.refl _ _) (Nat.le_refl _) (by simp) ?_; (case hd => rfl); (case hg => rfl); (case hr => first | (go_simp; done) | (go_simp; rfl)); (case hp => exact (Reps.one (show Kd.M (Kd.int .u8) _ _ _ ((wrap64 (192 + (wrap64 (Int.tdiv a1 64)))) % 256) [.int .u8 ((wrap64 (192 + (wrap64 (Int.tdiv a1 64)))) % 256)] from rfl) (Reps.one (show Kd.M (Kd.int .u8) _ _ _ ((wrap64 (128 + (Int.tmod a1 64))) % 256) [.int .u8 ((wrap64 (128 + (Int.tmod a1 64))) % 256)] from rfl) (Reps.none _ _)))); intro v124 w8 ho9 hb hg_ hnew_; clear hg_ hnew_; (first | rw [← Ny123.out] at ho9 | (simp only [Int.reduceToNat] at ho9; rw [← Ny123.out] at ho9)); have n0_ := yM (Kd.R_elder' (by (with_reducible repeat (first | apply Kd.R_alloc | apply Kd.R_drewN | apply Kd.R_drew)); exact HO0.out) (Kd.R_base ho9) hb); have n1_ := yM (Kd.R_lower (Kd.R_new' (Kd.R_newM (M := fun k_ => (P0_ k_ ∨ w.heap.size ≤ k_)) ho9 (by first | exact HK.out.1 | exact (show Kept w _ (fun k_ => P0_ k_) from by repeat (first | (with_reducible first | exact HK.out | apply Kept.alloc | apply Kept.drewN | apply Kept.drew) | exact HK.out)).1) (fun k_ h_ => .inr h_)) (Kd.R_lt (by (with_reducible repeat (first | apply Kd.R_alloc | apply Kd.R_drewN | apply Kd.R_drew)); exact HO0.out))) (below_size (by repeat (first | (with_reducible first | exact HB.out | apply zA | apply zN | apply zD) | exact HB.out)))); have n2_ := yM (Kept.below (S := (fun k_ => P0_ k_)) (by repeat (first | (with_reducible first | exact HK.out | apply Kept.alloc | apply Kept.drewN | apply Kept.drew) | exact HK.out)) hb); have n3_ := yM (below_step (by repeat (first | (with_reducible first | exact HB.out | apply zA | apply zN | apply zD) | exact HB.out)) hb); clear HO0; clear HK; clear HB; have HO0 := n0_; have HO125 := n1_; have HK := n2_; have HB := n3_; clear n0_ n1_ n2_ n3_; clear hb ho9; obtain ⟨Ao11, co11, eo11⟩ := Kd.R_slice HO125.out; subst eo11) | ((with_reducible refine gate_builtin (b := .append) (xs := #[.tmp 16, .tmp 25]) rfl ?_); at_builtin; refine Kd.R_append_rows (Kd.int .u8) (w0 := w0) w0.heap.size rfl (.tmp 16) (.tmp 25) 49 5 (.int .u8 0) 1 rfl Tryd.underlying49 info5 rfl (by decide) (by omega) u9000_ l0 y123 _ _ _ (fun k_ => (P0_ k_ ∨ w.heap.size ≤ k_) ∧ some k_ ≠ (.slice Ao11 y123.length co11 : Value).ownBlock) (fun _ => False) rfl rfl ?aO ?aR (fun _ _ h => h) (fun _ h => h.elim) ?aF ?aB ?aS ?aL ?_; (case aR => repeat (first | exact (Kd.R_reads' HO125.out).2.2 | (with_reducible refine Kd.C_alloc ?_ _) | (with_reducible refine Kd.C_drewN ?_ _) | (with_reducible refine Kd.C_drew ?_))); (case aB => exact (by repeat (first | (with_reducible first | exact HB.out | apply zA | apply zN | apply zD) | exact HB.out))); (case aF => exact (fun k_ hk => ⟨(.inr (Nat.le_trans (by first | exact HK.out.1 | exact (show Kept w _ (fun k_ => P0_ k_) from by repeat (first | (with_reducible first | exact HK.out | apply Kept.alloc | apply Kept.drewN | apply Kept.drew) | exact HK.out)).1) hk)), Kd.fresh' (Kd.R_lt (by (with_reducible repeat (first | apply Kd.R_alloc | apply Kd.R_drewN | apply Kd.R_drew)); exact HO125.out)) k_ hk⟩)); (case aO => exact (by (with_reducible repeat (first | apply Kd.R_alloc | apply Kd.R_drewN | apply Kd.R_drew)); exact HO0.out)); (case aS => exact (below_size (by repeat (first | (with_reducible first | exact HB.out | apply zA | apply zN | apply zD) | exact HB.out)))); (case aL => have := LMc7.out; omega); intro v127 w10 ho hb hg hat; rw [← Ny126.out] at ho; have n0_ := yM (Kd.R_after (ok := (fun k_ => (P0_ k_ ∨ w.heap.size ≤ k_))) (by (with_reducible repeat (first | apply Kd.R_alloc | apply Kd.R_drewN | apply Kd.R_drew)); exact Kd.R_mono HO125.out (fun _ hk => ⟨hk.1.1, hk.2⟩)) hg hat); have n1_ := yM (hb); have n2_ := yM (Kept.of_grown (S := (fun k_ => P0_ k_)) hg (by repeat (first | (with_reducible first | exact HK.out | apply Kept.alloc | apply Kept.drewN | apply Kept.drew) | exact HK.out)) (fun k_ e_ => (HO0.out.1 k_ e_).1)); have n3_ := yM (ho); clear HO125; clear HB; clear HK; clear HO0; have HO125 := n0_; have HB := n1_; have HK := n2_; have HO128 := n3_; clear n0_ n1_ n2_ n3_; clear ho hb hg hat))
    go_ret
    exact ⟨_, by first | rfl | (simp [errW_none, errW_some] <;> rfl) | (simp [*, errW_none, errW_some] <;> rfl), by (with_reducible repeat (first | apply Kd.R_alloc | apply Kd.R_drewN | apply Kd.R_drew)); exact Kd.R_mono HO128.out (fun _ hk => hk.1), by repeat (first | (with_reducible first | exact HB.out | apply zA | apply zN | apply zD) | exact HB.out), by repeat (first | (with_reducible first | exact HK.out | apply Kept.alloc | apply Kept.drewN | apply Kept.drew) | exact HK.out)⟩
   ·rw [if_neg c7] at H
    exact absurd H (by simp)
  ·rw [if_neg c6] at H
   have c6b0 : decide (a1 < 2048) = false := decide_eq_false c6
   clear c6
   by_cases c12 : a1 < 65536
   ·rw [if_pos c12] at H
    have c12b0 : decide (a1 < 65536) = true := decide_eq_true c12
    clear c12
    obtain ⟨y129, hy129⟩ : ∃ y_ : List Int, y_ = (([(wrap64 (224 + (wrap64 (Int.tdiv a1 4096)))) % 256, (wrap64 (128 + (Int.tmod (wrap64 (Int.tdiv a1 64)) 64))) % 256, (wrap64 (128 + (Int.tmod a1 64))) % 256] : List Int)) := ⟨_, rfl⟩
    replace H : (if l0.length + y129.length < 140737488355328 then (some (l0 ++ y129)) else (none)) = some r := by first | (rw [hy129]; with_reducible exact H) | (have H2_ := (Option.bind_some _ _).symm.trans H; rw [hy129]; with_reducible exact H2_) | (have H2_ := (Option.bind_some _ _).symm.trans H; with_reducible exact H2_) | with_reducible exact H | (rw [hy129]; exact H) | exact H
    have Ny129 := yM hy129
    clear hy129
    by_cases c13 : l0.length + y129.length < 140737488355328
    ·rw [if_pos c13] at H
     have LMc13 := yM c13
     clear c13
     obtain ⟨y132, hy132⟩ : ∃ y_ : List Int, y_ = (l0 ++ y129) := ⟨_, rfl⟩
     replace H : (some y132) = some r := by first | (rw [hy132]; with_reducible exact H) | (have H2_ := (Option.bind_some _ _).symm.trans H; rw [hy132]; with_reducible exact H2_) | (have H2_ := (Option.bind_some _ _).symm.trans H; with_reducible exact H2_) | with_reducible exact H | (rw [hy132]; exact H) | exact H
     have Ny132 := yM hy132
     clear hy132
     obtain rfl := Option.some.inj H
     go_enter Tryd.func80, Tryd.ntmps80
     go_wp2_with (first | ((with_reducible refine gate_dst (N := 44) rfl ?_); refine Kd.R_lit (Kd.int .u8) _ 5 ?hg (N := 44) ?hd (xs := ([(wrap64 (224 + (wrap64 (Int.tdiv a1 4096)))) % 256, (wrap64 (128 + (Int.tmod (wrap64 (Int.tdiv a1 64)) 64))) % 256, (wrap64 (128 + (Int.tmod a1 64))) % 256] : List Int)) (inner := [.int .u8 ((wrap64 (224 + (wrap64 (Int.tdiv a1 4096)))) % 256), .int .u8 ((wrap64 (128 + (Int.tmod (wrap64 (Int.tdiv a1 64)) 64))) % 256), .int .u8 ((wrap64 (128 + (Int.tmod a1 64))) % 256)]) (ok := fun _ => True) (okp := fun _ => True) ?hr ?hp (fun _ hk => hk) trivial (Below.refl _ _) (Nat.le_refl _) (by simp) ?_; (case hd => rfl); (case hg => rfl); (case hr => first | (go_simp; done) | (go_simp; rfl)); (case hp => exact (Reps.one (show Kd.M (Kd.int .u8) _ _ _ ((wrap64 (224 + (wrap64 (Int.tdiv a1 4096)))) % 256) [.int .u8 ((wrap64 (224 + (wrap64 (Int.tdiv a1 4096)))) % 256)] from rfl) (Reps.one (show Kd.M (Kd.int .u8) _ _ _ ((wrap64 (128 + (Int.tmod (wrap64 (Int.tdiv a1 64)) 64))) % 256) [.int .u8 ((wrap64 (128 + (Int.tmod (wrap64 (Int.tdiv a1 64)) 64))) % 256)] from rfl) (Reps.one (show Kd.M (Kd.int .u8) _ _ _ ((wrap64 (128 + (Int.tmod a1 64))) % 256) [.int .u8 ((wrap64 (128 + (Int.tmod a1 64))) % 256)] from rfl) (Reps.none _ _))))); intro v130 w14 ho15 hb hg_ hnew_; clear hg_ hnew_; (first | rw [← Ny129.out] at ho15 | (simp only [Int.reduceToNat] at ho15; rw [← Ny129.out] at ho15)); have n0_ := yM (Kd.R_elder' (by (with_reducible repeat (first | apply Kd.R_alloc | apply Kd.R_drewN | apply Kd.R_drew)); exact HO0.out) (Kd.R_base ho15) hb); have n1_ := yM (Kd.R_lower (Kd.R_new' (Kd.R_newM (M := fun k_ => (P0_ k_ ∨ w.heap.size ≤ k_)) ho15 (by first | exact HK.out.1 | exact (show Kept w _ (fun k_ => P0_ k_) from by repeat (first | (with_reducible first | exact HK.out | apply Kept.alloc | apply Kept.drewN | apply Kept.drew) | exact HK.out)).1) (fun k_ h_ => .inr h_)) (Kd.R_lt (by (with_reducible repeat (first | apply Kd.R_alloc | apply Kd.R_drewN | apply Kd.R_drew)); exact HO0.out))) (below_size (by repeat (first | (with_reducible first | exact HB.out | apply zA | apply zN | apply zD) | exact HB.out)))); have n2_ := yM (Kept.below (S := (fun k_ => P0_ k_)) (by repeat (first | (with_reducible first | exact HK.out | apply Kept.alloc | apply Kept.drewN | apply Kept.drew) | exact HK.out)) hb); have n3_ := yM (below_step (by repeat (first | (with_reducible first | exact HB.out | apply zA | apply zN | apply zD) | exact HB.out)) hb); clear HO0; clear HK; clear HB; have HO0 := n0_; have HO131 := n1_; have HK := n2_; have HB := n3_; clear n0_ n1_ n2_ n3_; clear hb ho15; obtain ⟨Ao17, co17, eo17⟩ := Kd.R_slice HO131.out; subst eo17) | ((with_reducible refine gate_builtin (b := .append) (xs := #[.tmp 30, .tmp 44]) rfl ?_); at_builtin; refine Kd.R_append_rows (Kd.int .u8) (w0 := w0) w0.heap.size rfl (.tmp 30) (.tmp 44) 49 5 (.int .u8 0) 1 rfl Tryd.underlying49 info5 rfl (by decide) (by omega) u9000_ l0 y129 _ _ _ (fun k_ => (P0_ k_ ∨ w.heap.size ≤ k_) ∧ some k_ ≠ (.slice Ao17 y129.length co17 : Value).ownBlock) (fun _ => False) rfl rfl ?aO ?aR (fun _ _ h => h) (fun _ h => h.elim) ?aF ?aB ?aS ?aL ?_; (case aR => repeat (first | exact (Kd.R_reads' HO131.out).2.2 | (with_reducible refine Kd.C_alloc ?_ _) | (with_reducible refine Kd.C_drewN ?_ _) | (with_reducible refine Kd.C_drew ?_))); (case aB => exact (by repeat (first | (with_reducible first | exact HB.out | apply zA | apply zN | apply zD) | exact HB.out))); (case aF => exact (fun k_ hk => ⟨(.inr (Nat.le_trans (by first | exact HK.out.1 | exact (show Kept w _ (fun k_ => P0_ k_) from by repeat (first | (with_reducible first | exact HK.out | apply Kept.alloc | apply Kept.drewN | apply Kept.drew) | exact HK.out)).1) hk)), Kd.fresh' (Kd.R_lt (by (with_reducible repeat (first | apply Kd.R_alloc | apply Kd.R_drewN | apply Kd.R_drew)); exact HO131.out)) k_ hk⟩)); (case aO => exact (by (with_reducible repeat (first | apply Kd.R_alloc | apply Kd.R_drewN | apply Kd.R_drew)); exact HO0.out)); (case aS => exact (below_size (by repeat (first | (with_reducible first | exact HB.out | apply zA | apply zN | apply zD) | exact HB.out)))); (case aL => have := LMc13.out; omega); intro v133 w16 ho hb hg hat; rw [← Ny132.out] at ho; have n0_ := yM (Kd.R_after (ok := (fun k_ => (P0_ k_ ∨ w.heap.size ≤ k_))) (by (with_reducible repeat (first | apply Kd.R_alloc | apply Kd.R_drewN | apply Kd.R_drew)); exact Kd.R_mono HO131.out (fun _ hk => ⟨hk.1.1, hk.2⟩)) hg hat); have n1_ := yM (hb); have n2_ := yM (Kept.of_grown (S := (fun k_ => P0_ k_)) hg (by repeat (first | (with_reducible first | exact HK.out | apply Kept.alloc | apply Kept.drewN | apply Kept.drew) | exact HK.out)) (fun k_ e_ => (HO0.out.1 k_ e_).1)); have n3_ := yM (ho); clear HO131; clear HB; clear HK; clear HO0; have HO131 := n0_; have HB := n1_; have HK := n2_; have HO134 := n3_; clear n0_ n1_ n2_ n3_; clear ho hb hg hat))
     go_ret
     exact ⟨_, by first | rfl | (simp [errW_none, errW_some] <;> rfl) | (simp [*, errW_none, errW_some] <;> rfl), by (with_reducible repeat (first | apply Kd.R_alloc | apply Kd.R_drewN | apply Kd.R_drew)); exact Kd.R_mono HO134.out (fun _ hk => hk.1), by repeat (first | (with_reducible first | exact HB.out | apply zA | apply zN | apply zD) | exact HB.out), by repeat (first | (with_reducible first | exact HK.out | apply Kept.alloc | apply Kept.drewN | apply Kept.drew) | exact HK.out)⟩
    ·rw [if_neg c13] at H
     exact absurd H (by simp)
   ·rw [if_neg c12] at H
    have c12b0 : decide (a1 < 65536) = false := decide_eq_false c12
    clear c12
    obtain ⟨y135, hy135⟩ : ∃ y_ : List Int, y_ = (([(wrap64 (240 + (wrap64 (Int.tdiv a1 262144)))) % 256, (wrap64 (128 + (Int.tmod (wrap64 (Int.tdiv a1 4096)) 64))) % 256, (wrap64 (128 + (Int.tmod (wrap64 (Int.tdiv a1 64)) 64))) % 256, (wrap64 (128 + (Int.tmod a1 64))) % 256] : List Int)) := ⟨_, rfl⟩
    replace H : (if l0.length + y135.length < 140737488355328 then (some (l0 ++ y135)) else (none)) = some r := by first | (rw [hy135]; with_reducible exact H) | (have H2_ := (Option.bind_some _ _).symm.trans H; rw [hy135]; with_reducible exact H2_) | (have H2_ := (Option.bind_some _ _).symm.trans H; with_reducible exact H2_) | with_reducible exact H | (rw [hy135]; exact H) | exact H
    have Ny135 := yM hy135
    clear hy135
    by_cases c18 : l0.length + y135.length < 140737488355328
    ·rw [if_pos c18] at H
     have LMc18 := yM c18
     clear c18
     obtain ⟨y138, hy138⟩ : ∃ y_ : List Int, y_ = (l0 ++ y135) := ⟨_, rfl⟩
     replace H : (some y138) = some r := by first | (rw [hy138]; with_reducible exact H) | (have H2_ := (Option.bind_some _ _).symm.trans H; rw [hy138]; with_reducible exact H2_) | (have H2_ := (Option.bind_some _ _).symm.trans H; with_reducible exact H2_) | with_reducible exact H | (rw [hy138]; exact H) | exact H
     have Ny138 := yM hy138
     clear hy138
     obtain rfl := Option.some.inj H
     go_enter Tryd.func80, Tryd.ntmps80
     go_wp2_with (first | ((with_reducible refine gate_dst (N := 65) rfl ?_); refine Kd.R_lit (Kd.int .u8) _ 5 ?hg (N := 65) ?hd (xs := ([(wrap64 (240 + (wrap64 (Int.tdiv a1 262144)))) % 256, (wrap64 (128 + (Int.tmod (wrap64 (Int.tdiv a1 4096)) 64))) % 256, (wrap64 (128 + (Int.tmod (wrap64 (Int.tdiv a1 64)) 64))) % 256, (wrap64 (128 + (Int.tmod a1 64))) % 256] : List Int)) (inner := [.int .u8 ((wrap64 (240 + (wrap64 (Int.tdiv a1 262144)))) % 256), .int .u8 ((wrap64 (128 + (Int.tmod (wrap64 (Int.tdiv a1 4096)) 64))) % 256), .int .u8 ((wrap64 (128 + (Int.tmod (wrap64 (Int.tdiv a1 64)) 64))) % 256), .int .u8 ((wrap64 (128 + (Int.tmod a1 64))) % 256)]) (ok := fun _ => True) (okp := fun _ => True) ?hr ?hp (fun _ hk => hk) trivial (Below.refl _ _) (Nat.le_refl _) (by simp) ?_; (case hd => rfl); (case hg => rfl); (case hr => first | (go_simp; done) | (go_simp; rfl)); (case hp => exact (Reps.one (show Kd.M (Kd.int .u8) _ _ _ ((wrap64 (240 + (wrap64 (Int.tdiv a1 262144)))) % 256) [.int .u8 ((wrap64 (240 + (wrap64 (Int.tdiv a1 262144)))) % 256)] from rfl) (Reps.one (show Kd.M (Kd.int .u8) _ _ _ ((wrap64 (128 + (Int.tmod (wrap64 (Int.tdiv a1 4096)) 64))) % 256) [.int .u8 ((wrap64 (128 + (Int.tmod (wrap64 (Int.tdiv a1 4096)) 64))) % 256)] from rfl) (Reps.one (show Kd.M (Kd.int .u8) _ _ _ ((wrap64 (128 + (Int.tmod (wrap64 (Int.tdiv a1 64)) 64))) % 256) [.int .u8 ((wrap64 (128 + (Int.tmod (wrap64 (Int.tdiv a1 64)) 64))) % 256)] from rfl) (Reps.one (show Kd.M (Kd.int .u8) _ _ _ ((wrap64 (128 + (Int.tmod a1 64))) % 256) [.int .u8 ((wrap64 (128 + (Int.tmod a1 64))) % 256)] from rfl) (Reps.none _ _)))))); intro v136 w19 ho20 hb hg_ hnew_; clear hg_ hnew_; (first | rw [← Ny135.out] at ho20 | (simp only [Int.reduceToNat] at ho20; rw [← Ny135.out] at ho20)); have n0_ := yM (Kd.R_elder' (by (with_reducible repeat (first | apply Kd.R_alloc | apply Kd.R_drewN | apply Kd.R_drew)); exact HO0.out) (Kd.R_base ho20) hb); have n1_ := yM (Kd.R_lower (Kd.R_new' (Kd.R_newM (M := fun k_ => (P0_ k_ ∨ w.heap.size ≤ k_)) ho20 (by first | exact HK.out.1 | exact (show Kept w _ (fun k_ => P0_ k_) from by repeat (first | (with_reducible first | exact HK.out | apply Kept.alloc | apply Kept.drewN | apply Kept.drew) | exact HK.out)).1) (fun k_ h_ => .inr h_)) (Kd.R_lt (by (with_reducible repeat (first | apply Kd.R_alloc | apply Kd.R_drewN | apply Kd.R_drew)); exact HO0.out))) (below_size (by repeat (first | (with_reducible first | exact HB.out | apply zA | apply zN | apply zD) | exact HB.out)))); have n2_ := yM (Kept.below (S := (fun k_ => P0_ k_)) (by repeat (first | (with_reducible first | exact HK.out | apply Kept.alloc | apply Kept.drewN | apply Kept.drew) | exact HK.out)) hb); have n3_ := yM (below_step (by repeat (first | (with_reducible first | exact HB.out | apply zA | apply zN | apply zD) | exact HB.out)) hb); clear HO0; clear HK; clear HB; have HO0 := n0_; have HO137 := n1_; have HK := n2_; have HB := n3_; clear n0_ n1_ n2_ n3_; clear hb ho20; obtain ⟨Ao22, co22, eo22⟩ := Kd.R_slice HO137.out; subst eo22) | ((with_reducible refine gate_builtin (b := .append) (xs := #[.tmp 46, .tmp 65]) rfl ?_); at_builtin; refine Kd.R_append_rows (Kd.int .u8) (w0 := w0) w0.heap.size rfl (.tmp 46) (.tmp 65) 49 5 (.int .u8 0) 1 rfl Tryd.underlying49 info5 rfl (by decide) (by omega) u9000_ l0 y135 _ _ _ (fun k_ => (P0_ k_ ∨ w.heap.size ≤ k_) ∧ some k_ ≠ (.slice Ao22 y135.length co22 : Value).ownBlock) (fun _ => False) rfl rfl ?aO ?aR (fun _ _ h => h) (fun _ h => h.elim) ?aF ?aB ?aS ?aL ?_; (case aR => repeat (first | exact (Kd.R_reads' HO137.out).2.2 | (with_reducible refine Kd.C_alloc ?_ _) | (with_reducible refine Kd.C_drewN ?_ _) | (with_reducible refine Kd.C_drew ?_))); (case aB => exact (by repeat (first | (with_reducible first | exact HB.out | apply zA | apply zN | apply zD) | exact HB.out))); (case aF => exact (fun k_ hk => ⟨(.inr (Nat.le_trans (by first | exact HK.out.1 | exact (show Kept w _ (fun k_ => P0_ k_) from by repeat (first | (with_reducible first | exact HK.out | apply Kept.alloc | apply Kept.drewN | apply Kept.drew) | exact HK.out)).1) hk)), Kd.fresh' (Kd.R_lt (by (with_reducible repeat (first | apply Kd.R_alloc | apply Kd.R_drewN | apply Kd.R_drew)); exact HO137.out)) k_ hk⟩)); (case aO => exact (by (with_reducible repeat (first | apply Kd.R_alloc | apply Kd.R_drewN | apply Kd.R_drew)); exact HO0.out)); (case aS => exact (below_size (by repeat (first | (with_reducible first | exact HB.out | apply zA | apply zN | apply zD) | exact HB.out)))); (case aL => have := LMc18.out; omega); intro v139 w21 ho hb hg hat; rw [← Ny138.out] at ho; have n0_ := yM (Kd.R_after (ok := (fun k_ => (P0_ k_ ∨ w.heap.size ≤ k_))) (by (with_reducible repeat (first | apply Kd.R_alloc | apply Kd.R_drewN | apply Kd.R_drew)); exact Kd.R_mono HO137.out (fun _ hk => ⟨hk.1.1, hk.2⟩)) hg hat); have n1_ := yM (hb); have n2_ := yM (Kept.of_grown (S := (fun k_ => P0_ k_)) hg (by repeat (first | (with_reducible first | exact HK.out | apply Kept.alloc | apply Kept.drewN | apply Kept.drew) | exact HK.out)) (fun k_ e_ => (HO0.out.1 k_ e_).1)); have n3_ := yM (ho); clear HO137; clear HB; clear HK; clear HO0; have HO137 := n0_; have HB := n1_; have HK := n2_; have HO140 := n3_; clear n0_ n1_ n2_ n3_; clear ho hb hg hat))
     go_ret
     exact ⟨_, by first | rfl | (simp [errW_none, errW_some] <;> rfl) | (simp [*, errW_none, errW_some] <;> rfl), by (with_reducible repeat (first | apply Kd.R_alloc | apply Kd.R_drewN | apply Kd.R_drew)); exact Kd.R_mono HO140.out (fun _ hk => hk.1), by repeat (first | (with_reducible first | exact HB.out | apply zA | apply zN | apply zD) | exact HB.out), by repeat (first | (with_reducible first | exact HK.out | apply Kept.alloc | apply Kept.drewN | apply Kept.drew) | exact HK.out)⟩
    ·rw [if_neg c18] at H
     exact absurd H (by simp)
mutual
def T_escape.j0 : Nat → List Int → Int → Int → Bool → ByteArray → Int → Int → Int → Option (List Int × Int × ByteArray × Int × Int × Int)
 | 0, _, _, _, _, _, _, _, _ => none
 | k + 1, x1, x2, x9, x59, x1000, x1001, x1002, x1003 => if x59 = true then (some (x1, 0, x1000, x1001, x1002, x1003)) else (if x9 < 55296 then (T_escape.j1 k x1 x2 x9 true x1000 x1001 x1002 x1003) else (T_escape.j1 k x1 x2 x9 (decide (x9 > 57343)) x1000 x1001 x1002 x1003))
def T_escape.j1 : Nat → List Int → Int → Int → Bool → ByteArray → Int → Int → Int → Option (List Int × Int × ByteArray × Int × Int × Int)
 | 0, _, _, _, _, _, _, _, _ => none
 | k + 1, x1, x2, x9, x66, x1000, x1001, x1002, x1003 => if x66 = true then ((R_character.f x1 x9).bind fun t150 => (some (t150, wrap64 (x2 + 6), x1000, x1001, x1002, x1003))) else (if (wrap64 (x2 + 7)) ≥ (x1000.size : Int) then (T_escape.j2 k x1 x2 x9 true x1000 x1001 x1002 x1003) else (if 0 ≤ (wrap64 (x2 + 6)) then (if (wrap64 (x2 + 6)) < (x1000.size : Int) then (if (bt x1000 (wrap64 (x2 + 6))) = 92 then (if 0 ≤ (wrap64 (x2 + 7)) then (if (wrap64 (x2 + 7)) < (x1000.size : Int) then (T_escape.j2 k x1 x2 x9 ((bt x1000 (wrap64 (x2 + 7))) != 117) x1000 x1001 x1002 x1003) else (none)) else (none)) else (T_escape.j2 k x1 x2 x9 true x1000 x1001 x1002 x1003)) else (none)) else (none)))
def T_escape.j2 : Nat → List Int → Int → Int → Bool → ByteArray → Int → Int → Int → Option (List Int × Int × ByteArray × Int × Int × Int)
 | 0, _, _, _, _, _, _, _, _ => none
 | k + 1, x1, x2, x9, x99, x1000, x1001, x1002, x1003 => if x99 = true then (some (x1, 0, x1000, x1001, x1002, x1003)) else ((T_hex.f k x1000 x1001 x1002 x1003 (wrap64 (x2 + 8))).bind fun bt153 => (if bt153.1 < 56320 then (some (x1, 0, bt153.2.1, bt153.2.2.1, bt153.2.2.2.1, bt153.2.2.2.2)) else (if bt153.1 > 57343 then (some (x1, 0, bt153.2.1, bt153.2.2.1, bt153.2.2.2.1, bt153.2.2.2.2)) else ((R_character.f x1 (wrap64 ((wrap64 ((wrap64 (65536 + (wrap64 (1024 * (wrap64 (x9 - 55296)))))) + bt153.1)) - 56320))).bind fun t158 => (some (t158, wrap64 (x2 + 12), bt153.2.1, bt153.2.2.1, bt153.2.2.2.1, bt153.2.2.2.2))))))
end
def T_escape.f (k : Nat) (s0_0 : ByteArray) (s0_1 : Int) (s0_2 : Int) (s0_3 : Int) (l1 : List Int) (a2 : Int) : Option (List Int × Int × ByteArray × Int × Int × Int) := if (wrap64 (a2 + 1)) ≥ (s0_0.size : Int) then (some (l1, 0, s0_0, s0_1, s0_2, s0_3)) else (if 0 ≤ (wrap64 (a2 + 1)) then (if (wrap64 (a2 + 1)) < (s0_0.size : Int) then (if (bt s0_0 (wrap64 (a2 + 1))) = 117 then ((T_hex.f k s0_0 s0_1 s0_2 s0_3 (wrap64 (a2 + 2))).bind fun bt145 => (if bt145.1 < 0 then (T_escape.j0 k l1 a2 bt145.1 true bt145.2.1 bt145.2.2.1 bt145.2.2.2.1 bt145.2.2.2.2) else (if bt145.1 ≥ 56320 then (T_escape.j0 k l1 a2 bt145.1 (decide (bt145.1 ≤ 57343)) bt145.2.1 bt145.2.2.1 bt145.2.2.2.1 bt145.2.2.2.2) else (T_escape.j0 k l1 a2 bt145.1 false bt145.2.1 bt145.2.2.1 bt145.2.2.2.1 bt145.2.2.2.2)))) else ((R_plain.f k (bt s0_0 (wrap64 (a2 + 1)))).bind fun t141 => (if t141 < 0 then (some (l1, 0, s0_0, s0_1, s0_2, s0_3)) else (if l1.length < 140737488355328 then (some ((l1 ++ [(t141) % 256]), wrap64 (a2 + 2), s0_0, s0_1, s0_2, s0_3)) else (none))))) else (none)) else (none))
set_option maxHeartbeats 8000000 in
set_option maxRecDepth 100000 in
theorem T_escape.calls (k : Nat) (g : Nat) (s0_0 : ByteArray) (s0_1 : Int) (s0_2 : Int) (s0_3 : Int) (P1_ : Nat → Prop) (u9000_ : Value) (l1 : List Int) (a2 : Int) (r1 : List Int) (r2 : Int) (r3 : ByteArray) (r4 : Int) (r5 : Int) (r6 : Int) (w0 w : World) (hI : IsS79 w0 w g s0_0 s0_1 s0_2 s0_3) (hB : Below w0.heap.size w0 w) (ho1 : Kd.R (Kd.int .u8) 5 w w0.heap.size P1_ u9000_ l1) (h : T_escape.f k s0_0 s0_1 s0_2 s0_3 l1 a2 = some (r1, r2, r3, r4, r5, r6)) :
  Calls Tryd.prog 64 #[.pointer (some ⟨g, 0, none⟩), u9000_, .int .i64 a2] w fun e w' => ∃ v0_ : Value, e = .returned (.tuple #[v0_, .int .i64 r2]) ∧ Kd.R (Kd.int .u8) 5 w' w0.heap.size (fun k_ => (P1_ k_ ∨ w.heap.size ≤ k_)) v0_ r1 ∧ IsS79 w0 w' g r3 r4 r5 r6 ∧ Below w0.heap.size w0 w' ∧ Kept w w' (fun k_ => (P1_ k_) ∨ k_ = g) := by
 have HO1 := yM (show Kd.R (Kd.int .u8) 5 w w0.heap.size (fun k_ => (P1_ k_ ∨ w.heap.size ≤ k_)) u9000_ l1 from Kd.R_mono ho1 (fun k_ hk => (.inl hk)))
 have HI0 := yM hI
 have HL := yM hB.size
 clear hI
 have HK := yM (Kept.refl w (fun k_ => (P1_ k_) ∨ k_ = g))
 have HW0 := yM hB.size
 have HB := yM hB
 clear hB
 have H : (if (wrap64 (a2 + 1)) ≥ (s0_0.size : Int) then (some (l1, 0, s0_0, s0_1, s0_2, s0_3)) else (if 0 ≤ (wrap64 (a2 + 1)) then (if (wrap64 (a2 + 1)) < (s0_0.size : Int) then (if (bt s0_0 (wrap64 (a2 + 1))) = 117 then ((T_hex.f k s0_0 s0_1 s0_2 s0_3 (wrap64 (a2 + 2))).bind fun bt145 => (if bt145.1 < 0 then (T_escape.j0 k l1 a2 bt145.1 true bt145.2.1 bt145.2.2.1 bt145.2.2.2.1 bt145.2.2.2.2) else (if bt145.1 ≥ 56320 then (T_escape.j0 k l1 a2 bt145.1 (decide (bt145.1 ≤ 57343)) bt145.2.1 bt145.2.2.1 bt145.2.2.2.1 bt145.2.2.2.2) else (T_escape.j0 k l1 a2 bt145.1 false bt145.2.1 bt145.2.2.1 bt145.2.2.2.1 bt145.2.2.2.2)))) else ((R_plain.f k (bt s0_0 (wrap64 (a2 + 1)))).bind fun t141 => (if t141 < 0 then (some (l1, 0, s0_0, s0_1, s0_2, s0_3)) else (if l1.length < 140737488355328 then (some ((l1 ++ [(t141) % 256]), wrap64 (a2 + 2), s0_0, s0_1, s0_2, s0_3)) else (none))))) else (none)) else (none))) = some (r1, r2, r3, r4, r5, r6) := h
 clear h
 by_cases c4 : (wrap64 (a2 + 1)) ≥ (s0_0.size : Int)
 ·rw [if_pos c4] at H
  have c4b0 : decide ((s0_0.size : Int) ≤ (wrap64 (a2 + 1))) = true := decide_eq_true c4
  clear c4
  simp only [Option.some.injEq, Prod.mk.injEq] at H
  obtain ⟨rfl, rfl, rfl, rfl, rfl, rfl⟩ := H
  obtain ⟨HGz5, hgz5⟩ := HI0.out
  have hcz5_0 := cellS79_0 HGz5
  have hcz5_1 := cellS79_1 HGz5
  have hcz5_2 := cellS79_2 HGz5
  have hcz5_3 := cellS79_3 HGz5
  have hfz5_0 := yF HGz5 0
  have hfz5_1 := yF HGz5 1
  have hfz5_2 := yF HGz5 2
  have hfz5_3 := yF HGz5 3
  clear HGz5 hgz5
  go_enter Tryd.func64, Tryd.ntmps64
  go_wp2
  go_ret2
  exact ⟨_, by first | rfl | (simp [errW_none, errW_some] <;> rfl) | (simp [*, errW_none, errW_some] <;> rfl), by (with_reducible repeat (first | apply Kd.R_alloc | apply Kd.R_drewN | apply Kd.R_drew)); exact HO1.out, by repeat (first | (with_reducible first | exact HI0.out | apply wA | apply wN | apply wD | apply w_0 | apply w_1 | apply w_2 | apply w_3) | exact HI0.out), by repeat (first | (with_reducible first | exact HB.out | apply zA | apply zN | apply zD | refine zq9 ?_ (wG HI0.out)) | exact HB.out), by repeat (first | (with_reducible first | exact HK.out | apply Kept.alloc | apply Kept.drewN | apply Kept.drew | refine Kept.setCell ?_ (.inl (.inr rfl)) _) | exact HK.out)⟩
 ·rw [if_neg c4] at H
  have c4b0 : decide ((s0_0.size : Int) ≤ (wrap64 (a2 + 1))) = false := decide_eq_false c4
  clear c4
  obtain ⟨ji6, hji6⟩ : ∃ j_ : Int, (wrap64 (a2 + 1)) = j_ := ⟨_, rfl⟩
  replace H : (if 0 ≤ (ji6) then (if (ji6) < (s0_0.size : Int) then (if (bt s0_0 (ji6)) = 117 then ((T_hex.f k s0_0 s0_1 s0_2 s0_3 (wrap64 (a2 + 2))).bind fun bt145 => (if bt145.1 < 0 then (T_escape.j0 k l1 a2 bt145.1 true bt145.2.1 bt145.2.2.1 bt145.2.2.2.1 bt145.2.2.2.2) else (if bt145.1 ≥ 56320 then (T_escape.j0 k l1 a2 bt145.1 (decide (bt145.1 ≤ 57343)) bt145.2.1 bt145.2.2.1 bt145.2.2.2.1 bt145.2.2.2.2) else (T_escape.j0 k l1 a2 bt145.1 false bt145.2.1 bt145.2.2.1 bt145.2.2.2.1 bt145.2.2.2.2)))) else ((R_plain.f k (bt s0_0 (ji6))).bind fun t141 => (if t141 < 0 then (some (l1, 0, s0_0, s0_1, s0_2, s0_3)) else (if l1.length < 140737488355328 then (some ((l1 ++ [(t141) % 256]), wrap64 (a2 + 2), s0_0, s0_1, s0_2, s0_3)) else (none))))) else (none)) else (none)) = some (r1, r2, r3, r4, r5, r6) := by first | (rw [hji6] at H; exact H) | (simp only [hji6] at H ⊢; exact H)
  (try rw [hji6] at c4b0)
  have hji6w : (IntKind.i64.wrap (a2 + 1)) = ji6 := (i64_w _).trans hji6
  by_cases c7 : 0 ≤ (ji6)
  ·rw [if_pos c7] at H
   have c7b0 : decide (0 ≤ (ji6)) = true := decide_eq_true c7
   clear c7
   by_cases c8 : (ji6) < (s0_0.size : Int)
   ·rw [if_pos c8] at H
    have c8b0 : decide ((ji6) < (s0_0.size : Int)) = true := decide_eq_true c8
    clear c8
    by_cases c10 : (bt s0_0 (ji6)) = 117
    ·rw [if_pos c10] at H
     have c10b0 : ((bt s0_0 (ji6)) == 117) = true := beq_iff_eq.mpr c10
     have c10b1 : ((bt s0_0 (ji6)) != 117) = false := bne_eq_false_iff_eq.mpr c10
     clear c10
     replace H := yO H
     obtain ⟨⟨t145, t146, t147, t148, t149⟩, A110, H⟩ := H
     replace H : (if t145 < 0 then (T_escape.j0 k l1 a2 t145 true t146 t147 t148 t149) else (if t145 ≥ 56320 then (T_escape.j0 k l1 a2 t145 (decide (t145 ≤ 57343)) t146 t147 t148 t149) else (T_escape.j0 k l1 a2 t145 false t146 t147 t148 t149))) = some (r1, r2, r3, r4, r5, r6) := H
     have A11 := yM A110
     clear A110
     have HC12 := yM H
     clear H
     obtain ⟨HGz13, hgz13⟩ := HI0.out
     have hcz13_0 := cellS79_0 HGz13
     have hcz13_1 := cellS79_1 HGz13
     have hcz13_2 := cellS79_2 HGz13
     have hcz13_3 := cellS79_3 HGz13
     have hfz13_0 := yF HGz13 0
     have hfz13_1 := yF HGz13 1
     have hfz13_2 := yF HGz13 2
     have hfz13_3 := yF HGz13 3
     clear HGz13 hgz13
     have p9 : 0 ≤ ((ji6) : Int) := yQ (by first | (with_reducible assumption) | assumption)
     have q9 : (ji6) < (s0_0.size : Int) := yQ (by first | (with_reducible assumption) | assumption)
     have hx9 := bt_at s0_0 (ji6)
     replace p9 := eq_true p9
     replace q9 := eq_true q9
     go_enter Tryd.func64, Tryd.ntmps64
     go_upto_region 9 with (first | ((with_reducible refine gate_callee (f := 79) rfl ?_); refine goesL_ (some 49) rfl rfl Tryd.func79 (by kernel_rfl) rfl #[.pointer (some ⟨g, 0, none⟩), .int .i64 (wrap64 (a2 + 2))] rfl (by (try simp only [List.map_toArray, List.map_cons, List.map_nil]); first | done | rfl | (simp only [List.length_drop, List.length_take]; rfl)) ?_; (with_reducible refine (T_hex.calls k g s0_0 s0_1 s0_2 s0_3 (wrap64 (a2 + 2)) t145 t146 t147 t148 t149 w0 _ ?side1 ?side2 A11.out).mono ?_); (case side1 => repeat (first | (with_reducible first | exact HI0.out | apply wA | apply wN | apply wD | apply w_0 | apply w_1 | apply w_2 | apply w_3) | exact HI0.out)); (case side2 => repeat (first | (with_reducible first | exact HB.out | apply zA | apply zN | apply zD | refine zq9 ?_ (wG HI0.out)) | exact HB.out)); rintro e w14 ⟨rfl, hi, hb, hk⟩; refine ⟨_, rfl, ?_⟩; have n0_ := yM (Kd.R_mono (Kd.R_keep (IsS79.apart (show IsS79 w0 _ g s0_0 s0_1 s0_2 s0_3 from by repeat (first | (with_reducible first | exact HI0.out | apply wA | apply wN | apply wD | apply w_0 | apply w_1 | apply w_2 | apply w_3) | exact HI0.out)) (by (with_reducible repeat (first | apply Kd.R_alloc | apply Kd.R_drewN | apply Kd.R_drew)); exact HO1.out) (by decide)) hk (fun _ h => h.2)) (fun _ h => h.1)); have n1_ := yM (Kept.of_keep (S := (fun k_ => (P1_ k_) ∨ k_ = g)) (by repeat (first | (with_reducible first | exact HK.out | apply Kept.alloc | apply Kept.drewN | apply Kept.drew | refine Kept.setCell ?_ (.inl (.inr rfl)) _) | exact HK.out)) hk (.inl (.inr rfl))); have n2_ := yM (hb); have n3_ := yM (hi); clear HO1; clear HK; clear HB; clear HI0; have HO1 := n0_; have HK := n1_; have HB := n2_; have HI0 := n3_; clear n0_ n1_ n2_ n3_; (try clear hb); (try clear hb2); (try clear hk); (try clear hi)))
     (try simp only [Act.put, yX, yY, yZ])
     go_cut [59] (fun v59 wc => ∃ (kq : Nat) (x59_11 : Bool), v59 = .bool x59_11 ∧ Aside0 (T_escape.j0 kq l1 a2 t145 x59_11 t146 t147 t148 t149 = some (r1, r2, r3, r4, r5, r6)) ∧ Aside0 (kq ≤ k) ∧ Aside0 (Kd.R (Kd.int .u8) 5 wc w0.heap.size (fun k_ => (P1_ k_ ∨ w.heap.size ≤ k_)) u9000_ l1) ∧ Aside0 (IsS79 w0 wc g t146 t147 t148 t149) ∧ Aside0 (Kept w wc (fun k_ => (P1_ k_) ∨ k_ = g)) ∧ Aside0 (Below w0.heap.size w0 wc))
     case first =>
      have H := HC12.out
      clear HC12
      by_cases c15 : t145 < 0
      ·rw [if_pos c15] at H
       have c15b0 : decide (t145 < 0) = true := decide_eq_true c15
       clear c15
       (first | rw [c15b0] | (simp only [i64_w, i32_w]; rw [c15b0]) | skip)
       have H' := yM H
       clear H
       go_wp2
       go_meet
       case rel => exact ⟨_, (true), (by first | rfl | (simp; done) | (simp [*]; done)), H', ⟨by first | omega | exact Nat.le_refl _⟩, ⟨by (with_reducible repeat (first | apply Kd.R_alloc | apply Kd.R_drewN | apply Kd.R_drew)); exact HO1.out⟩, ⟨by repeat (first | (with_reducible first | exact HI0.out | apply wA | apply wN | apply wD | apply w_0 | apply w_1 | apply w_2 | apply w_3) | exact HI0.out)⟩, ⟨by repeat (first | (with_reducible first | exact HK.out | apply Kept.alloc | apply Kept.drewN | apply Kept.drew | refine Kept.setCell ?_ (.inl (.inr rfl)) _) | exact HK.out)⟩, ⟨by repeat (first | (with_reducible first | exact HB.out | apply zA | apply zN | apply zD | refine zq9 ?_ (wG HI0.out)) | exact HB.out)⟩⟩
      ·rw [if_neg c15] at H
       have c15b0 : decide (t145 < 0) = false := decide_eq_false c15
       clear c15
       (first | rw [c15b0] | (simp only [i64_w, i32_w]; rw [c15b0]) | skip)
       by_cases c16 : t145 ≥ 56320
       ·rw [if_pos c16] at H
        have c16b0 : decide (56320 ≤ t145) = true := decide_eq_true c16
        clear c16
        have H' := yM H
        clear H
        go_wp2
        go_meet
        case rel => exact ⟨_, (decide (t145 ≤ 57343)), (by first | rfl | (simp; done) | (simp [*]; done)), H', ⟨by first | omega | exact Nat.le_refl _⟩, ⟨by (with_reducible repeat (first | apply Kd.R_alloc | apply Kd.R_drewN | apply Kd.R_drew)); exact HO1.out⟩, ⟨by repeat (first | (with_reducible first | exact HI0.out | apply wA | apply wN | apply wD | apply w_0 | apply w_1 | apply w_2 | apply w_3) | exact HI0.out)⟩, ⟨by repeat (first | (with_reducible first | exact HK.out | apply Kept.alloc | apply Kept.drewN | apply Kept.drew | refine Kept.setCell ?_ (.inl (.inr rfl)) _) | exact HK.out)⟩, ⟨by repeat (first | (with_reducible first | exact HB.out | apply zA | apply zN | apply zD | refine zq9 ?_ (wG HI0.out)) | exact HB.out)⟩⟩
       ·rw [if_neg c16] at H
        have c16b0 : decide (56320 ≤ t145) = false := decide_eq_false c16
        clear c16
        have H' := yM H
        clear H
        go_wp2
        go_meet
        case rel => exact ⟨_, (false), (by first | rfl | (simp; done) | (simp [*]; done)), H', ⟨by first | omega | exact Nat.le_refl _⟩, ⟨by (with_reducible repeat (first | apply Kd.R_alloc | apply Kd.R_drewN | apply Kd.R_drew)); exact HO1.out⟩, ⟨by repeat (first | (with_reducible first | exact HI0.out | apply wA | apply wN | apply wD | apply w_0 | apply w_1 | apply w_2 | apply w_3) | exact HI0.out)⟩, ⟨by repeat (first | (with_reducible first | exact HK.out | apply Kept.alloc | apply Kept.drewN | apply Kept.drew | refine Kept.setCell ?_ (.inl (.inr rfl)) _) | exact HK.out)⟩, ⟨by repeat (first | (with_reducible first | exact HB.out | apply zA | apply zN | apply zD | refine zq9 ?_ (wG HI0.out)) | exact HB.out)⟩⟩
     case rest =>
      clear HC12
      obtain ⟨kq, x59_11, rfl, HA, HJ11, HO_1, HI0, HK, HB⟩ := hcut
      cases kq with
      | zero => exact absurd HA.out (by simp [T_escape.j0])
      | succ kj11 =>
       have H := HA.out
       clear HA
       simp only [T_escape.j0] at H
       by_cases c17 : x59_11 = true
       ·subst c17
        have H1 : (some (l1, 0, t146, t147, t148, t149)) = some (r1, r2, r3, r4, r5, r6) := by rw [if_pos rfl] at H; exact H
        clear H
        have H := H1
        clear H1
        simp only [Option.some.injEq, Prod.mk.injEq] at H
        obtain ⟨rfl, rfl, rfl, rfl, rfl, rfl⟩ := H
        go_wp2
        go_ret2
        exact ⟨_, by first | rfl | (simp [errW_none, errW_some] <;> rfl) | (simp only [← hji6]; first | rfl | (simp [errW_none, errW_some] <;> rfl)) | (simp [*, errW_none, errW_some] <;> rfl), by (with_reducible repeat (first | apply Kd.R_alloc | apply Kd.R_drewN | apply Kd.R_drew)); exact HO_1.out, by repeat (first | (with_reducible first | exact HI0.out | apply wA | apply wN | apply wD | apply w_0 | apply w_1 | apply w_2 | apply w_3) | exact HI0.out), by repeat (first | (with_reducible first | exact HB.out | apply zA | apply zN | apply zD | refine zq9 ?_ (wG HI0.out)) | exact HB.out), by repeat (first | (with_reducible first | exact HK.out | apply Kept.alloc | apply Kept.drewN | apply Kept.drew | refine Kept.setCell ?_ (.inl (.inr rfl)) _) | exact HK.out)⟩
       ·replace c17 := Bool.eq_false_iff.mpr c17
        subst c17
        have H1 : (if t145 < 55296 then (T_escape.j1 kj11 l1 a2 t145 true t146 t147 t148 t149) else (T_escape.j1 kj11 l1 a2 t145 (decide (t145 > 57343)) t146 t147 t148 t149)) = some (r1, r2, r3, r4, r5, r6) := by rw [if_neg (show ¬ (false = true) by decide)] at H; exact H
        clear H
        have H := H1
        clear H1
        have HC18 := yM H
        clear H
        go_upto_region 11 with (fail)
        go_cut [66] (fun v66 wc => ∃ (kq : Nat) (x66_17 : Bool), v66 = .bool x66_17 ∧ Aside0 (T_escape.j1 kq l1 a2 t145 x66_17 t146 t147 t148 t149 = some (r1, r2, r3, r4, r5, r6)) ∧ Aside0 (kq ≤ kj11) ∧ Aside0 (Kd.R (Kd.int .u8) 5 wc w0.heap.size (fun k_ => (P1_ k_ ∨ w.heap.size ≤ k_)) u9000_ l1) ∧ Aside0 (IsS79 w0 wc g t146 t147 t148 t149) ∧ Aside0 (Kept w wc (fun k_ => (P1_ k_) ∨ k_ = g)) ∧ Aside0 (Below w0.heap.size w0 wc))
        case first =>
         have H := HC18.out
         clear HC18
         by_cases c19 : t145 < 55296
         ·rw [if_pos c19] at H
          have c19b0 : decide (t145 < 55296) = true := decide_eq_true c19
          clear c19
          (first | rw [c19b0] | (simp only [i64_w, i32_w]; rw [c19b0]) | skip)
          have H' := yM H
          clear H
          go_wp2
          go_meet
          case rel => exact ⟨_, (true), (by first | rfl | (simp; done) | (simp [*]; done)), H', ⟨by have := HJ11.out; first | omega | exact Nat.le_refl _⟩, ⟨by (with_reducible repeat (first | apply Kd.R_alloc | apply Kd.R_drewN | apply Kd.R_drew)); exact HO_1.out⟩, ⟨by repeat (first | (with_reducible first | exact HI0.out | apply wA | apply wN | apply wD | apply w_0 | apply w_1 | apply w_2 | apply w_3) | exact HI0.out)⟩, ⟨by repeat (first | (with_reducible first | exact HK.out | apply Kept.alloc | apply Kept.drewN | apply Kept.drew | refine Kept.setCell ?_ (.inl (.inr rfl)) _) | exact HK.out)⟩, ⟨by repeat (first | (with_reducible first | exact HB.out | apply zA | apply zN | apply zD | refine zq9 ?_ (wG HI0.out)) | exact HB.out)⟩⟩
         ·rw [if_neg c19] at H
          have c19b0 : decide (t145 < 55296) = false := decide_eq_false c19
          clear c19
          (first | rw [c19b0] | (simp only [i64_w, i32_w]; rw [c19b0]) | skip)
          have H' := yM H
          clear H
          go_wp2
          go_meet
          case rel => exact ⟨_, (decide (t145 > 57343)), (by first | rfl | (simp; done) | (simp [*]; done)), H', ⟨by have := HJ11.out; first | omega | exact Nat.le_refl _⟩, ⟨by (with_reducible repeat (first | apply Kd.R_alloc | apply Kd.R_drewN | apply Kd.R_drew)); exact HO_1.out⟩, ⟨by repeat (first | (with_reducible first | exact HI0.out | apply wA | apply wN | apply wD | apply w_0 | apply w_1 | apply w_2 | apply w_3) | exact HI0.out)⟩, ⟨by repeat (first | (with_reducible first | exact HK.out | apply Kept.alloc | apply Kept.drewN | apply Kept.drew | refine Kept.setCell ?_ (.inl (.inr rfl)) _) | exact HK.out)⟩, ⟨by repeat (first | (with_reducible first | exact HB.out | apply zA | apply zN | apply zD | refine zq9 ?_ (wG HI0.out)) | exact HB.out)⟩⟩
        case rest =>
         clear HC18
         obtain ⟨kq, x66_17, rfl, HA, HJ17, HO_1, HI0, HK, HB⟩ := hcut
         cases kq with
         | zero => exact absurd HA.out (by simp [T_escape.j1])
         | succ kj17 =>
          have H := HA.out
          clear HA
          simp only [T_escape.j1] at H
          by_cases c20 : x66_17 = true
          ·subst c20
           have H1 : ((R_character.f l1 t145).bind fun t150 => (some (t150, wrap64 (a2 + 6), t146, t147, t148, t149))) = some (r1, r2, r3, r4, r5, r6) := by rw [if_pos rfl] at H; exact H
           clear H
           have H := H1
           clear H1
           replace H := yO H
           obtain ⟨t150, A210, H⟩ := H
           replace H : (some (t150, wrap64 (a2 + 6), t146, t147, t148, t149)) = some (r1, r2, r3, r4, r5, r6) := H
           have A21 := yM A210
           clear A210
           simp only [Option.some.injEq, Prod.mk.injEq] at H
           obtain ⟨rfl, rfl, rfl, rfl, rfl, rfl⟩ := H
           obtain ⟨Ao22, co22, eo22⟩ := Kd.R_slice HO_1.out
           subst eo22
           go_wp2_with (first | ((with_reducible refine gate_callee (f := 80) rfl ?_); refine goesL_ (some 69) rfl rfl Tryd.func80 (by kernel_rfl) rfl #[.slice Ao22 l1.length co22, .int .i64 t145] rfl (by (try simp only [List.map_toArray, List.map_cons, List.map_nil]); first | done | rfl | (simp only [List.length_drop, List.length_take]; rfl)) ?_; (with_reducible refine (R_character.calls (fun k_ => some k_ = (.slice Ao22 l1.length co22 : Value).ownBlock) (.slice Ao22 l1.length co22) l1 t145 t150 w0 _ ?side1 ?side2 A21.out).mono ?_); (case side1 => repeat (first | (with_reducible first | exact HB.out | apply zA | apply zN | apply zD | refine zq9 ?_ (wG HI0.out)) | exact HB.out)); (case side2 => exact Kd.R_tight rfl HO_1.out); rintro e w23 ⟨v151, rfl, ho0, hb, hkp⟩; refine ⟨_, rfl, ?_⟩; have n0_ := yM (IsS79.kept (by repeat (first | (with_reducible first | exact HI0.out | apply wA | apply wN | apply wD | apply w_0 | apply w_1 | apply w_2 | apply w_3) | exact HI0.out)) hkp (fun hs_ => (fun e_ => (IsS79.own_ne HI0.out HO_1.out (by decide)) e_) hs_)); have n1_ := yM (Kd.R_mono (ok' := fun k_ => (P1_ k_ ∨ w.heap.size ≤ k_)) ho0 (fun k_ hk_ => Or.elim hk_ (fun hs_ => (HO_1.out.1 k_ (hs_).symm)) (fun hn_ => (.inr (Nat.le_trans (by first | exact HK.out.1 | exact (show Kept w _ (fun k_ => (P1_ k_) ∨ k_ = g) from by repeat (first | (with_reducible first | exact HK.out | apply Kept.alloc | apply Kept.drewN | apply Kept.drew | refine Kept.setCell ?_ (.inl (.inr rfl)) _) | exact HK.out)).1) hn_))))); have n2_ := yM (Kept.then_ (S := (fun k_ => (P1_ k_) ∨ k_ = g)) (by repeat (first | (with_reducible first | exact HK.out | apply Kept.alloc | apply Kept.drewN | apply Kept.drew | refine Kept.setCell ?_ (.inl (.inr rfl)) _) | exact HK.out)) hkp (fun k_ hs_ => (fun e_ => Or.imp_left Or.inl ((HO_1.out.1 k_ e_.symm))) hs_)); have n3_ := yM (hb); clear HI0; clear HK; clear HB; clear HO_1; have HI0 := n0_; have HO152 := n1_; have HK := n2_; have HB := n3_; clear n0_ n1_ n2_ n3_; (try clear hb); (try clear hkp); (try clear ho0)))
           go_ret2
           exact ⟨_, by first | rfl | (simp [errW_none, errW_some] <;> rfl) | (simp only [← hji6]; first | rfl | (simp [errW_none, errW_some] <;> rfl)) | (simp [*, errW_none, errW_some] <;> rfl), by (with_reducible repeat (first | apply Kd.R_alloc | apply Kd.R_drewN | apply Kd.R_drew)); exact HO152.out, by repeat (first | (with_reducible first | exact HI0.out | apply wA | apply wN | apply wD | apply w_0 | apply w_1 | apply w_2 | apply w_3) | exact HI0.out), by repeat (first | (with_reducible first | exact HB.out | apply zA | apply zN | apply zD | refine zq9 ?_ (wG HI0.out)) | exact HB.out), by repeat (first | (with_reducible first | exact HK.out | apply Kept.alloc | apply Kept.drewN | apply Kept.drew | refine Kept.setCell ?_ (.inl (.inr rfl)) _) | exact HK.out)⟩
          ·replace c20 := Bool.eq_false_iff.mpr c20
           subst c20
           have H1 : (if (wrap64 (a2 + 7)) ≥ (t146.size : Int) then (T_escape.j2 kj17 l1 a2 t145 true t146 t147 t148 t149) else (if 0 ≤ (wrap64 (a2 + 6)) then (if (wrap64 (a2 + 6)) < (t146.size : Int) then (if (bt t146 (wrap64 (a2 + 6))) = 92 then (if 0 ≤ (wrap64 (a2 + 7)) then (if (wrap64 (a2 + 7)) < (t146.size : Int) then (T_escape.j2 kj17 l1 a2 t145 ((bt t146 (wrap64 (a2 + 7))) != 117) t146 t147 t148 t149) else (none)) else (none)) else (T_escape.j2 kj17 l1 a2 t145 true t146 t147 t148 t149)) else (none)) else (none))) = some (r1, r2, r3, r4, r5, r6) := by rw [if_neg (show ¬ (false = true) by decide)] at H; exact H
           clear H
           have H := H1
           clear H1
           have HC24 := yM H
           clear H
           go_upto_region 13 with (fail)
           go_cut [99] (fun v99 wc => ∃ (kq : Nat) (x99_23 : Bool), v99 = .bool x99_23 ∧ Aside0 (T_escape.j2 kq l1 a2 t145 x99_23 t146 t147 t148 t149 = some (r1, r2, r3, r4, r5, r6)) ∧ Aside0 (kq ≤ kj17) ∧ Aside0 (Kd.R (Kd.int .u8) 5 wc w0.heap.size (fun k_ => (P1_ k_ ∨ w.heap.size ≤ k_)) u9000_ l1) ∧ Aside0 (IsS79 w0 wc g t146 t147 t148 t149) ∧ Aside0 (Kept w wc (fun k_ => (P1_ k_) ∨ k_ = g)) ∧ Aside0 (Below w0.heap.size w0 wc))
           case first =>
            have H := HC24.out
            clear HC24
            by_cases c25 : (wrap64 (a2 + 7)) ≥ (t146.size : Int)
            ·rw [if_pos c25] at H
             have c25b0 : decide ((t146.size : Int) ≤ (wrap64 (a2 + 7))) = true := decide_eq_true c25
             clear c25
             (first | rw [c25b0] | (simp only [i64_w, i32_w]; rw [c25b0]) | skip)
             have H' := yM H
             clear H
             obtain ⟨HGz26, hgz26⟩ := HI0.out
             have hcz26_0 := cellS79_0 HGz26
             have hcz26_1 := cellS79_1 HGz26
             have hcz26_2 := cellS79_2 HGz26
             have hcz26_3 := cellS79_3 HGz26
             have hfz26_0 := yF HGz26 0
             have hfz26_1 := yF HGz26 1
             have hfz26_2 := yF HGz26 2
             have hfz26_3 := yF HGz26 3
             clear HGz26 hgz26
             go_wp2
             go_meet
             case rel => exact ⟨_, (true), (by first | rfl | (simp; done) | (simp [*]; done)), H', ⟨by have := HJ11.out; have := HJ17.out; first | omega | exact Nat.le_refl _⟩, ⟨by (with_reducible repeat (first | apply Kd.R_alloc | apply Kd.R_drewN | apply Kd.R_drew)); exact HO_1.out⟩, ⟨by repeat (first | (with_reducible first | exact HI0.out | apply wA | apply wN | apply wD | apply w_0 | apply w_1 | apply w_2 | apply w_3) | exact HI0.out)⟩, ⟨by repeat (first | (with_reducible first | exact HK.out | apply Kept.alloc | apply Kept.drewN | apply Kept.drew | refine Kept.setCell ?_ (.inl (.inr rfl)) _) | exact HK.out)⟩, ⟨by repeat (first | (with_reducible first | exact HB.out | apply zA | apply zN | apply zD | refine zq9 ?_ (wG HI0.out)) | exact HB.out)⟩⟩
            ·rw [if_neg c25] at H
             have c25b0 : decide ((t146.size : Int) ≤ (wrap64 (a2 + 7))) = false := decide_eq_false c25
             clear c25
             (first | rw [c25b0] | (simp only [i64_w, i32_w]; rw [c25b0]) | skip)
             obtain ⟨ji27, hji27⟩ : ∃ j_ : Int, (wrap64 (a2 + 6)) = j_ := ⟨_, rfl⟩
             replace H : (if 0 ≤ (ji27) then (if (ji27) < (t146.size : Int) then (if (bt t146 (ji27)) = 92 then (if 0 ≤ (wrap64 (a2 + 7)) then (if (wrap64 (a2 + 7)) < (t146.size : Int) then (T_escape.j2 kj17 l1 a2 t145 ((bt t146 (wrap64 (a2 + 7))) != 117) t146 t147 t148 t149) else (none)) else (none)) else (T_escape.j2 kj17 l1 a2 t145 true t146 t147 t148 t149)) else (none)) else (none)) = some (r1, r2, r3, r4, r5, r6) := by first | (rw [hji27] at H; exact H) | (simp only [hji27] at H ⊢; exact H)
             have hji27w : (IntKind.i64.wrap (a2 + 6)) = ji27 := (i64_w _).trans hji27
             by_cases c28 : 0 ≤ (ji27)
             ·rw [if_pos c28] at H
              have c28b0 : decide (0 ≤ (ji27)) = true := decide_eq_true c28
              clear c28
              by_cases c29 : (ji27) < (t146.size : Int)
              ·rw [if_pos c29] at H
               have c29b0 : decide ((ji27) < (t146.size : Int)) = true := decide_eq_true c29
               clear c29
               by_cases c31 : (bt t146 (ji27)) = 92
               ·rw [if_pos c31] at H
                have c31b0 : ((bt t146 (ji27)) == 92) = true := beq_iff_eq.mpr c31
                have c31b1 : ((bt t146 (ji27)) != 92) = false := bne_eq_false_iff_eq.mpr c31
                clear c31
                obtain ⟨ji32, hji32⟩ : ∃ j_ : Int, (wrap64 (a2 + 7)) = j_ := ⟨_, rfl⟩
                replace H : (if 0 ≤ (ji32) then (if (ji32) < (t146.size : Int) then (T_escape.j2 kj17 l1 a2 t145 ((bt t146 (ji32)) != 117) t146 t147 t148 t149) else (none)) else (none)) = some (r1, r2, r3, r4, r5, r6) := by first | (rw [hji32] at H; exact H) | (simp only [hji32] at H ⊢; exact H)
                (try rw [hji32] at c25b0)
                have hji32w : (IntKind.i64.wrap (a2 + 7)) = ji32 := (i64_w _).trans hji32
                by_cases c33 : 0 ≤ (ji32)
                ·rw [if_pos c33] at H
                 have c33b0 : decide (0 ≤ (ji32)) = true := decide_eq_true c33
                 clear c33
                 by_cases c34 : (ji32) < (t146.size : Int)
                 ·rw [if_pos c34] at H
                  have c34b0 : decide ((ji32) < (t146.size : Int)) = true := decide_eq_true c34
                  clear c34
                  have H' := yM H
                  clear H
                  obtain ⟨HGz36, hgz36⟩ := HI0.out
                  have hcz36_0 := cellS79_0 HGz36
                  have hcz36_1 := cellS79_1 HGz36
                  have hcz36_2 := cellS79_2 HGz36
                  have hcz36_3 := cellS79_3 HGz36
                  have hfz36_0 := yF HGz36 0
                  have hfz36_1 := yF HGz36 1
                  have hfz36_2 := yF HGz36 2
                  have hfz36_3 := yF HGz36 3
                  clear HGz36 hgz36
                  have p30 : 0 ≤ ((ji27) : Int) := yQ (by first | (with_reducible assumption) | assumption)
                  have q30 : (ji27) < (t146.size : Int) := yQ (by first | (with_reducible assumption) | assumption)
                  have hx30 := bt_at t146 (ji27)
                  replace p30 := eq_true p30
                  replace q30 := eq_true q30
                  have p35 : 0 ≤ ((ji32) : Int) := yQ (by first | (with_reducible assumption) | assumption)
                  have q35 : (ji32) < (t146.size : Int) := yQ (by first | (with_reducible assumption) | assumption)
                  have hx35 := bt_at t146 (ji32)
                  replace p35 := eq_true p35
                  replace q35 := eq_true q35
                  go_wp2
                  go_meet
                  case rel => exact ⟨_, (((bt t146 (ji32)) != 117)), (by first | rfl | (simp; done) | (simp only [← hji32] <;> (first | rfl | simp)) | (simp [*]; done)), H', ⟨by have := HJ11.out; have := HJ17.out; first | omega | exact Nat.le_refl _⟩, ⟨by (with_reducible repeat (first | apply Kd.R_alloc | apply Kd.R_drewN | apply Kd.R_drew)); exact HO_1.out⟩, ⟨by repeat (first | (with_reducible first | exact HI0.out | apply wA | apply wN | apply wD | apply w_0 | apply w_1 | apply w_2 | apply w_3) | exact HI0.out)⟩, ⟨by repeat (first | (with_reducible first | exact HK.out | apply Kept.alloc | apply Kept.drewN | apply Kept.drew | refine Kept.setCell ?_ (.inl (.inr rfl)) _) | exact HK.out)⟩, ⟨by repeat (first | (with_reducible first | exact HB.out | apply zA | apply zN | apply zD | refine zq9 ?_ (wG HI0.out)) | exact HB.out)⟩⟩
                 ·rw [if_neg c34] at H
                  exact absurd H (by simp)
                ·rw [if_neg c33] at H
                 exact absurd H (by simp)
               ·rw [if_neg c31] at H
                have c31b0 : ((bt t146 (ji27)) == 92) = false := yB c31
                have c31b1 : ((bt t146 (ji27)) != 92) = true := bne_iff_ne.mpr c31
                have H' := yM H
                clear H
                obtain ⟨HGz37, hgz37⟩ := HI0.out
                have hcz37_0 := cellS79_0 HGz37
                have hcz37_1 := cellS79_1 HGz37
                have hcz37_2 := cellS79_2 HGz37
                have hcz37_3 := cellS79_3 HGz37
                have hfz37_0 := yF HGz37 0
                have hfz37_1 := yF HGz37 1
                have hfz37_2 := yF HGz37 2
                have hfz37_3 := yF HGz37 3
                clear HGz37 hgz37
                have p30 : 0 ≤ ((ji27) : Int) := yQ (by first | (with_reducible assumption) | assumption)
                have q30 : (ji27) < (t146.size : Int) := yQ (by first | (with_reducible assumption) | assumption)
                have hx30 := bt_at t146 (ji27)
                replace p30 := eq_true p30
                replace q30 := eq_true q30
                go_wp2
                go_meet
                case rel => exact ⟨_, (true), (by first | rfl | (simp; done) | (simp [*]; done)), H', ⟨by have := HJ11.out; have := HJ17.out; first | omega | exact Nat.le_refl _⟩, ⟨by (with_reducible repeat (first | apply Kd.R_alloc | apply Kd.R_drewN | apply Kd.R_drew)); exact HO_1.out⟩, ⟨by repeat (first | (with_reducible first | exact HI0.out | apply wA | apply wN | apply wD | apply w_0 | apply w_1 | apply w_2 | apply w_3) | exact HI0.out)⟩, ⟨by repeat (first | (with_reducible first | exact HK.out | apply Kept.alloc | apply Kept.drewN | apply Kept.drew | refine Kept.setCell ?_ (.inl (.inr rfl)) _) | exact HK.out)⟩, ⟨by repeat (first | (with_reducible first | exact HB.out | apply zA | apply zN | apply zD | refine zq9 ?_ (wG HI0.out)) | exact HB.out)⟩⟩
              ·rw [if_neg c29] at H
               exact absurd H (by simp)
             ·rw [if_neg c28] at H
              exact absurd H (by simp)
           case rest =>
            clear HC24
            obtain ⟨kq, x99_23, rfl, HA, HJ23, HO_1, HI0, HK, HB⟩ := hcut
            cases kq with
            | zero => exact absurd HA.out (by simp [T_escape.j2])
            | succ kj23 =>
             have H := HA.out
             clear HA
             simp only [T_escape.j2] at H
             by_cases c38 : x99_23 = true
             ·subst c38
              have H1 : (some (l1, 0, t146, t147, t148, t149)) = some (r1, r2, r3, r4, r5, r6) := by rw [if_pos rfl] at H; exact H
              clear H
              have H := H1
              clear H1
              simp only [Option.some.injEq, Prod.mk.injEq] at H
              obtain ⟨rfl, rfl, rfl, rfl, rfl, rfl⟩ := H
              go_wp2
              go_ret2
              exact ⟨_, by first | rfl | (simp [errW_none, errW_some] <;> rfl) | (simp only [← hji6]; first | rfl | (simp [errW_none, errW_some] <;> rfl)) | (simp [*, errW_none, errW_some] <;> rfl), by (with_reducible repeat (first | apply Kd.R_alloc | apply Kd.R_drewN | apply Kd.R_drew)); exact HO_1.out, by repeat (first | (with_reducible first | exact HI0.out | apply wA | apply wN | apply wD | apply w_0 | apply w_1 | apply w_2 | apply w_3) | exact HI0.out), by repeat (first | (with_reducible first | exact HB.out | apply zA | apply zN | apply zD | refine zq9 ?_ (wG HI0.out)) | exact HB.out), by repeat (first | (with_reducible first | exact HK.out | apply Kept.alloc | apply Kept.drewN | apply Kept.drew | refine Kept.setCell ?_ (.inl (.inr rfl)) _) | exact HK.out)⟩
             ·replace c38 := Bool.eq_false_iff.mpr c38
              subst c38
              have H1 : ((T_hex.f kj23 t146 t147 t148 t149 (wrap64 (a2 + 8))).bind fun bt153 => (if bt153.1 < 56320 then (some (l1, 0, bt153.2.1, bt153.2.2.1, bt153.2.2.2.1, bt153.2.2.2.2)) else (if bt153.1 > 57343 then (some (l1, 0, bt153.2.1, bt153.2.2.1, bt153.2.2.2.1, bt153.2.2.2.2)) else ((R_character.f l1 (wrap64 ((wrap64 ((wrap64 (65536 + (wrap64 (1024 * (wrap64 (t145 - 55296)))))) + bt153.1)) - 56320))).bind fun t158 => (some (t158, wrap64 (a2 + 12), bt153.2.1, bt153.2.2.1, bt153.2.2.2.1, bt153.2.2.2.2)))))) = some (r1, r2, r3, r4, r5, r6) := by rw [if_neg (show ¬ (false = true) by decide)] at H; exact H
              clear H
              have H := H1
              clear H1
              replace H := yO H
              obtain ⟨⟨t153, t154, t155, t156, t157⟩, A390, H⟩ := H
              replace H : (if t153 < 56320 then (some (l1, 0, t154, t155, t156, t157)) else (if t153 > 57343 then (some (l1, 0, t154, t155, t156, t157)) else ((R_character.f l1 (wrap64 ((wrap64 ((wrap64 (65536 + (wrap64 (1024 * (wrap64 (t145 - 55296)))))) + t153)) - 56320))).bind fun t158 => (some (t158, wrap64 (a2 + 12), t154, t155, t156, t157))))) = some (r1, r2, r3, r4, r5, r6) := H
              have A39 := yM A390
              clear A390
              by_cases c40 : t153 < 56320
              ·rw [if_pos c40] at H
               have c40b0 : decide (t153 < 56320) = true := decide_eq_true c40
               clear c40
               simp only [Option.some.injEq, Prod.mk.injEq] at H
               obtain ⟨rfl, rfl, rfl, rfl, rfl, rfl⟩ := H
               go_wp2_with (first | ((with_reducible refine gate_callee (f := 79) rfl ?_); refine goesL_ (some 104) rfl rfl Tryd.func79 (by kernel_rfl) rfl #[.pointer (some ⟨g, 0, none⟩), .int .i64 (wrap64 (a2 + 8))] rfl (by (try simp only [List.map_toArray, List.map_cons, List.map_nil]); first | done | rfl | (simp only [List.length_drop, List.length_take]; rfl)) ?_; (with_reducible refine (T_hex.calls kj23 g t146 t147 t148 t149 (wrap64 (a2 + 8)) t153 t154 t155 t156 t157 w0 _ ?side1 ?side2 A39.out).mono ?_); (case side1 => repeat (first | (with_reducible first | exact HI0.out | apply wA | apply wN | apply wD | apply w_0 | apply w_1 | apply w_2 | apply w_3) | exact HI0.out)); (case side2 => repeat (first | (with_reducible first | exact HB.out | apply zA | apply zN | apply zD | refine zq9 ?_ (wG HI0.out)) | exact HB.out)); rintro e w41 ⟨rfl, hi, hb, hk⟩; refine ⟨_, rfl, ?_⟩; have n0_ := yM (Kd.R_mono (Kd.R_keep (IsS79.apart (show IsS79 w0 _ g t146 t147 t148 t149 from by repeat (first | (with_reducible first | exact HI0.out | apply wA | apply wN | apply wD | apply w_0 | apply w_1 | apply w_2 | apply w_3) | exact HI0.out)) (by (with_reducible repeat (first | apply Kd.R_alloc | apply Kd.R_drewN | apply Kd.R_drew)); exact HO_1.out) (by decide)) hk (fun _ h => h.2)) (fun _ h => h.1)); have n1_ := yM (Kept.of_keep (S := (fun k_ => (P1_ k_) ∨ k_ = g)) (by repeat (first | (with_reducible first | exact HK.out | apply Kept.alloc | apply Kept.drewN | apply Kept.drew | refine Kept.setCell ?_ (.inl (.inr rfl)) _) | exact HK.out)) hk (.inl (.inr rfl))); have n2_ := yM (hb); have n3_ := yM (hi); clear HO_1; clear HK; clear HB; clear HI0; have HO_1 := n0_; have HK := n1_; have HB := n2_; have HI0 := n3_; clear n0_ n1_ n2_ n3_; (try clear hb); (try clear hb2); (try clear hk); (try clear hi)))
               go_ret2
               exact ⟨_, by first | rfl | (simp [errW_none, errW_some] <;> rfl) | (simp only [← hji6]; first | rfl | (simp [errW_none, errW_some] <;> rfl)) | (simp [*, errW_none, errW_some] <;> rfl), by (with_reducible repeat (first | apply Kd.R_alloc | apply Kd.R_drewN | apply Kd.R_drew)); exact HO_1.out, by repeat (first | (with_reducible first | exact HI0.out | apply wA | apply wN | apply wD | apply w_0 | apply w_1 | apply w_2 | apply w_3) | exact HI0.out), by repeat (first | (with_reducible first | exact HB.out | apply zA | apply zN | apply zD | refine zq9 ?_ (wG HI0.out)) | exact HB.out), by repeat (first | (with_reducible first | exact HK.out | apply Kept.alloc | apply Kept.drewN | apply Kept.drew | refine Kept.setCell ?_ (.inl (.inr rfl)) _) | exact HK.out)⟩
              ·rw [if_neg c40] at H
               have c40b0 : decide (t153 < 56320) = false := decide_eq_false c40
               clear c40
               by_cases c42 : t153 > 57343
               ·rw [if_pos c42] at H
                have c42b0 : decide (57343 < t153) = true := decide_eq_true c42
                clear c42
                simp only [Option.some.injEq, Prod.mk.injEq] at H
                obtain ⟨rfl, rfl, rfl, rfl, rfl, rfl⟩ := H
                go_wp2_with (first | ((with_reducible refine gate_callee (f := 79) rfl ?_); refine goesL_ (some 104) rfl rfl Tryd.func79 (by kernel_rfl) rfl #[.pointer (some ⟨g, 0, none⟩), .int .i64 (wrap64 (a2 + 8))] rfl (by (try simp only [List.map_toArray, List.map_cons, List.map_nil]); first | done | rfl | (simp only [List.length_drop, List.length_take]; rfl)) ?_; (with_reducible refine (T_hex.calls kj23 g t146 t147 t148 t149 (wrap64 (a2 + 8)) t153 t154 t155 t156 t157 w0 _ ?side1 ?side2 A39.out).mono ?_); (case side1 => repeat (first | (with_reducible first | exact HI0.out | apply wA | apply wN | apply wD | apply w_0 | apply w_1 | apply w_2 | apply w_3) | exact HI0.out)); (case side2 => repeat (first | (with_reducible first | exact HB.out | apply zA | apply zN | apply zD | refine zq9 ?_ (wG HI0.out)) | exact HB.out)); rintro e w43 ⟨rfl, hi, hb, hk⟩; refine ⟨_, rfl, ?_⟩; have n0_ := yM (Kd.R_mono (Kd.R_keep (IsS79.apart (show IsS79 w0 _ g t146 t147 t148 t149 from by repeat (first | (with_reducible first | exact HI0.out | apply wA | apply wN | apply wD | apply w_0 | apply w_1 | apply w_2 | apply w_3) | exact HI0.out)) (by (with_reducible repeat (first | apply Kd.R_alloc | apply Kd.R_drewN | apply Kd.R_drew)); exact HO_1.out) (by decide)) hk (fun _ h => h.2)) (fun _ h => h.1)); have n1_ := yM (Kept.of_keep (S := (fun k_ => (P1_ k_) ∨ k_ = g)) (by repeat (first | (with_reducible first | exact HK.out | apply Kept.alloc | apply Kept.drewN | apply Kept.drew | refine Kept.setCell ?_ (.inl (.inr rfl)) _) | exact HK.out)) hk (.inl (.inr rfl))); have n2_ := yM (hb); have n3_ := yM (hi); clear HO_1; clear HK; clear HB; clear HI0; have HO_1 := n0_; have HK := n1_; have HB := n2_; have HI0 := n3_; clear n0_ n1_ n2_ n3_; (try clear hb); (try clear hb2); (try clear hk); (try clear hi)))
                go_ret2
                exact ⟨_, by first | rfl | (simp [errW_none, errW_some] <;> rfl) | (simp only [← hji6]; first | rfl | (simp [errW_none, errW_some] <;> rfl)) | (simp [*, errW_none, errW_some] <;> rfl), by (with_reducible repeat (first | apply Kd.R_alloc | apply Kd.R_drewN | apply Kd.R_drew)); exact HO_1.out, by repeat (first | (with_reducible first | exact HI0.out | apply wA | apply wN | apply wD | apply w_0 | apply w_1 | apply w_2 | apply w_3) | exact HI0.out), by repeat (first | (with_reducible first | exact HB.out | apply zA | apply zN | apply zD | refine zq9 ?_ (wG HI0.out)) | exact HB.out), by repeat (first | (with_reducible first | exact HK.out | apply Kept.alloc | apply Kept.drewN | apply Kept.drew | refine Kept.setCell ?_ (.inl (.inr rfl)) _) | exact HK.out)⟩
               ·rw [if_neg c42] at H
                have c42b0 : decide (57343 < t153) = false := decide_eq_false c42
                clear c42
                replace H := yO H
                obtain ⟨t158, A440, H⟩ := H
                replace H : (some (t158, wrap64 (a2 + 12), t154, t155, t156, t157)) = some (r1, r2, r3, r4, r5, r6) := H
                have A44 := yM A440
                clear A440
                simp only [Option.some.injEq, Prod.mk.injEq] at H
                obtain ⟨rfl, rfl, rfl, rfl, rfl, rfl⟩ := H
                go_wp2_with (first | ((with_reducible refine gate_callee (f := 79) rfl ?_); refine goesL_ (some 104) rfl rfl Tryd.func79 (by kernel_rfl) rfl #[.pointer (some ⟨g, 0, none⟩), .int .i64 (wrap64 (a2 + 8))] rfl (by (try simp only [List.map_toArray, List.map_cons, List.map_nil]); first | done | rfl | (simp only [List.length_drop, List.length_take]; rfl)) ?_; (with_reducible refine (T_hex.calls kj23 g t146 t147 t148 t149 (wrap64 (a2 + 8)) t153 t154 t155 t156 t157 w0 _ ?side1 ?side2 A39.out).mono ?_); (case side1 => repeat (first | (with_reducible first | exact HI0.out | apply wA | apply wN | apply wD | apply w_0 | apply w_1 | apply w_2 | apply w_3) | exact HI0.out)); (case side2 => repeat (first | (with_reducible first | exact HB.out | apply zA | apply zN | apply zD | refine zq9 ?_ (wG HI0.out)) | exact HB.out)); rintro e w45 ⟨rfl, hi, hb, hk⟩; refine ⟨_, rfl, ?_⟩; have n0_ := yM (Kd.R_mono (Kd.R_keep (IsS79.apart (show IsS79 w0 _ g t146 t147 t148 t149 from by repeat (first | (with_reducible first | exact HI0.out | apply wA | apply wN | apply wD | apply w_0 | apply w_1 | apply w_2 | apply w_3) | exact HI0.out)) (by (with_reducible repeat (first | apply Kd.R_alloc | apply Kd.R_drewN | apply Kd.R_drew)); exact HO_1.out) (by decide)) hk (fun _ h => h.2)) (fun _ h => h.1)); have n1_ := yM (Kept.of_keep (S := (fun k_ => (P1_ k_) ∨ k_ = g)) (by repeat (first | (with_reducible first | exact HK.out | apply Kept.alloc | apply Kept.drewN | apply Kept.drew | refine Kept.setCell ?_ (.inl (.inr rfl)) _) | exact HK.out)) hk (.inl (.inr rfl))); have n2_ := yM (hb); have n3_ := yM (hi); clear HO_1; clear HK; clear HB; clear HI0; have HO_1 := n0_; have HK := n1_; have HB := n2_; have HI0 := n3_; clear n0_ n1_ n2_ n3_; (try clear hb); (try clear hb2); (try clear hk); (try clear hi); obtain ⟨Ao46, co46, eo46⟩ := Kd.R_slice HO_1.out; subst eo46) | ((with_reducible refine gate_callee (f := 80) rfl ?_); refine goesL_ (some 120) rfl rfl Tryd.func80 (by kernel_rfl) rfl #[.slice Ao46 l1.length co46, .int .i64 (wrap64 ((wrap64 ((wrap64 (65536 + (wrap64 (1024 * (wrap64 (t145 - 55296)))))) + t153)) - 56320))] rfl (by (try simp only [List.map_toArray, List.map_cons, List.map_nil]); first | done | rfl | (simp only [List.length_drop, List.length_take]; rfl)) ?_; (with_reducible refine (R_character.calls (fun k_ => some k_ = (.slice Ao46 l1.length co46 : Value).ownBlock) (.slice Ao46 l1.length co46) l1 (wrap64 ((wrap64 ((wrap64 (65536 + (wrap64 (1024 * (wrap64 (t145 - 55296)))))) + t153)) - 56320)) t158 w0 _ ?side1 ?side2 A44.out).mono ?_); (case side1 => repeat (first | (with_reducible first | exact HB.out | apply zA | apply zN | apply zD | refine zq9 ?_ (wG HI0.out)) | exact HB.out)); (case side2 => exact Kd.R_tight rfl HO_1.out); rintro e w47 ⟨v159, rfl, ho0, hb, hkp⟩; refine ⟨_, rfl, ?_⟩; have n0_ := yM (IsS79.kept (by repeat (first | (with_reducible first | exact HI0.out | apply wA | apply wN | apply wD | apply w_0 | apply w_1 | apply w_2 | apply w_3) | exact HI0.out)) hkp (fun hs_ => (fun e_ => (IsS79.own_ne HI0.out HO_1.out (by decide)) e_) hs_)); have n1_ := yM (Kd.R_mono (ok' := fun k_ => (P1_ k_ ∨ w.heap.size ≤ k_)) ho0 (fun k_ hk_ => Or.elim hk_ (fun hs_ => (HO_1.out.1 k_ (hs_).symm)) (fun hn_ => (.inr (Nat.le_trans (by first | exact HK.out.1 | exact (show Kept w _ (fun k_ => (P1_ k_) ∨ k_ = g) from by repeat (first | (with_reducible first | exact HK.out | apply Kept.alloc | apply Kept.drewN | apply Kept.drew | refine Kept.setCell ?_ (.inl (.inr rfl)) _) | exact HK.out)).1) hn_))))); have n2_ := yM (Kept.then_ (S := (fun k_ => (P1_ k_) ∨ k_ = g)) (by repeat (first | (with_reducible first | exact HK.out | apply Kept.alloc | apply Kept.drewN | apply Kept.drew | refine Kept.setCell ?_ (.inl (.inr rfl)) _) | exact HK.out)) hkp (fun k_ hs_ => (fun e_ => Or.imp_left Or.inl ((HO_1.out.1 k_ e_.symm))) hs_)); have n3_ := yM (hb); clear HI0; clear HK; clear HB; clear HO_1; have HI0 := n0_; have HO160 := n1_; have HK := n2_; have HB := n3_; clear n0_ n1_ n2_ n3_; (try clear hb); (try clear hkp); (try clear ho0)))
                go_ret2
                exact ⟨_, by first | rfl | (simp [errW_none, errW_some] <;> rfl) | (simp only [← hji6]; first | rfl | (simp [errW_none, errW_some] <;> rfl)) | (simp [*, errW_none, errW_some] <;> rfl), by (with_reducible repeat (first | apply Kd.R_alloc | apply Kd.R_drewN | apply Kd.R_drew)); exact HO160.out, by repeat (first | (with_reducible first | exact HI0.out | apply wA | apply wN | apply wD | apply w_0 | apply w_1 | apply w_2 | apply w_3) | exact HI0.out), by repeat (first | (with_reducible first | exact HB.out | apply zA | apply zN | apply zD | refine zq9 ?_ (wG HI0.out)) | exact HB.out), by repeat (first | (with_reducible first | exact HK.out | apply Kept.alloc | apply Kept.drewN | apply Kept.drew | refine Kept.setCell ?_ (.inl (.inr rfl)) _) | exact HK.out)⟩
    ·rw [if_neg c10] at H
     have c10b0 : ((bt s0_0 (ji6)) == 117) = false := yB c10
     have c10b1 : ((bt s0_0 (ji6)) != 117) = true := bne_iff_ne.mpr c10
     replace H := yO H
     obtain ⟨t141, A490, H⟩ := H
     replace H : (if t141 < 0 then (some (l1, 0, s0_0, s0_1, s0_2, s0_3)) else (if l1.length < 140737488355328 then (some ((l1 ++ [(t141) % 256]), wrap64 (a2 + 2), s0_0, s0_1, s0_2, s0_3)) else (none))) = some (r1, r2, r3, r4, r5, r6) := H
     have A49 := yM A490
     clear A490
     by_cases c50 : t141 < 0
     ·rw [if_pos c50] at H
      have c50b0 : decide (t141 < 0) = true := decide_eq_true c50
      clear c50
      simp only [Option.some.injEq, Prod.mk.injEq] at H
      obtain ⟨rfl, rfl, rfl, rfl, rfl, rfl⟩ := H
      obtain ⟨HGz51, hgz51⟩ := HI0.out
      have hcz51_0 := cellS79_0 HGz51
      have hcz51_1 := cellS79_1 HGz51
      have hcz51_2 := cellS79_2 HGz51
      have hcz51_3 := cellS79_3 HGz51
      have hfz51_0 := yF HGz51 0
      have hfz51_1 := yF HGz51 1
      have hfz51_2 := yF HGz51 2
      have hfz51_3 := yF HGz51 3
      clear HGz51 hgz51
      have p9 : 0 ≤ ((ji6) : Int) := yQ (by first | (with_reducible assumption) | assumption)
      have q9 : (ji6) < (s0_0.size : Int) := yQ (by first | (with_reducible assumption) | assumption)
      have hx9 := bt_at s0_0 (ji6)
      replace p9 := eq_true p9
      replace q9 := eq_true q9
      have p48 : 0 ≤ ((ji6) : Int) := yQ (by first | (with_reducible assumption) | assumption)
      have q48 : (ji6) < (s0_0.size : Int) := yQ (by first | (with_reducible assumption) | assumption)
      have hx48 := bt_at s0_0 (ji6)
      replace p48 := eq_true p48
      replace q48 := eq_true q48
      go_enter Tryd.func64, Tryd.ntmps64
      go_wp2_with (first | ((with_reducible refine gate_callee (f := 78) rfl ?_); refine goesL_ (some 35) rfl rfl Tryd.func78 (by kernel_rfl) rfl #[.int .u8 (bt s0_0 (ji6))] rfl (by (try simp only [List.map_toArray, List.map_cons, List.map_nil]); first | done | (simp only [hji6]; rfl) | rfl | (simp only [List.length_drop, List.length_take]; rfl)) ?_; (with_reducible refine (R_plain.calls k (bt s0_0 (ji6)) t141 _ A49.out).mono ?_); rintro e w' ⟨rfl, ⟨nd, rfl⟩⟩; refine ⟨_, rfl, ?_⟩))
      go_ret2
      exact ⟨_, by first | rfl | (simp [errW_none, errW_some] <;> rfl) | (simp only [← hji6]; first | rfl | (simp [errW_none, errW_some] <;> rfl)) | (simp [*, errW_none, errW_some] <;> rfl), by (with_reducible repeat (first | apply Kd.R_alloc | apply Kd.R_drewN | apply Kd.R_drew)); exact HO1.out, by repeat (first | (with_reducible first | exact HI0.out | apply wA | apply wN | apply wD | apply w_0 | apply w_1 | apply w_2 | apply w_3) | exact HI0.out), by repeat (first | (with_reducible first | exact HB.out | apply zA | apply zN | apply zD | refine zq9 ?_ (wG HI0.out)) | exact HB.out), by repeat (first | (with_reducible first | exact HK.out | apply Kept.alloc | apply Kept.drewN | apply Kept.drew | refine Kept.setCell ?_ (.inl (.inr rfl)) _) | exact HK.out)⟩
     ·rw [if_neg c50] at H
      have c50b0 : decide (t141 < 0) = false := decide_eq_false c50
      clear c50
      by_cases c52 : l1.length < 140737488355328
      ·rw [if_pos c52] at H
       have LMc52 := yM c52
       clear c52
       obtain ⟨y142, hy142⟩ : ∃ y_ : List Int, y_ = (l1 ++ [(t141) % 256]) := ⟨_, rfl⟩
       replace H : (some (y142, wrap64 (a2 + 2), s0_0, s0_1, s0_2, s0_3)) = some (r1, r2, r3, r4, r5, r6) := by first | (rw [hy142]; with_reducible exact H) | (have H2_ := (Option.bind_some _ _).symm.trans H; rw [hy142]; with_reducible exact H2_) | (have H2_ := (Option.bind_some _ _).symm.trans H; with_reducible exact H2_) | with_reducible exact H | (rw [hy142]; exact H) | exact H
       have Ny142 := yM hy142
       clear hy142
       simp only [Option.some.injEq, Prod.mk.injEq] at H
       obtain ⟨rfl, rfl, rfl, rfl, rfl, rfl⟩ := H
       obtain ⟨HGz53, hgz53⟩ := HI0.out
       have hcz53_0 := cellS79_0 HGz53
       have hcz53_1 := cellS79_1 HGz53
       have hcz53_2 := cellS79_2 HGz53
       have hcz53_3 := cellS79_3 HGz53
       have hfz53_0 := yF HGz53 0
       have hfz53_1 := yF HGz53 1
       have hfz53_2 := yF HGz53 2
       have hfz53_3 := yF HGz53 3
       clear HGz53 hgz53
       have p9 : 0 ≤ ((ji6) : Int) := yQ (by first | (with_reducible assumption) | assumption)
       have q9 : (ji6) < (s0_0.size : Int) := yQ (by first | (with_reducible assumption) | assumption)
       have hx9 := bt_at s0_0 (ji6)
       replace p9 := eq_true p9
       replace q9 := eq_true q9
       have p48 : 0 ≤ ((ji6) : Int) := yQ (by first | (with_reducible assumption) | assumption)
       have q48 : (ji6) < (s0_0.size : Int) := yQ (by first | (with_reducible assumption) | assumption)
       have hx48 := bt_at s0_0 (ji6)
       replace p48 := eq_true p48
       replace q48 := eq_true q48
       go_enter Tryd.func64, Tryd.ntmps64
       go_wp2_with (first | ((with_reducible refine gate_callee (f := 78) rfl ?_); refine goesL_ (some 35) rfl rfl Tryd.func78 (by kernel_rfl) rfl #[.int .u8 (bt s0_0 (ji6))] rfl (by (try simp only [List.map_toArray, List.map_cons, List.map_nil]); first | done | (simp only [hji6]; rfl) | rfl | (simp only [List.length_drop, List.length_take]; rfl)) ?_; (with_reducible refine (R_plain.calls k (bt s0_0 (ji6)) t141 _ A49.out).mono ?_); rintro e w' ⟨rfl, ⟨nd, rfl⟩⟩; refine ⟨_, rfl, ?_⟩) | ((with_reducible refine gate_builtin (b := .append) (xs := #[.tmp 39, .tmp 42]) rfl ?_); at_builtin; refine Kd.R_append (Kd.int .u8) (w0 := w0) w0.heap.size rfl (.tmp 39) (.tmp 42) 49 5 (.int .u8 0) 1 rfl Tryd.underlying49 info5 rfl (by decide) (by omega) u9000_ l1 ((t141) % 256) [.int .u8 ((t141) % 256)] (fun k_ => (P1_ k_ ∨ w.heap.size ≤ k_)) (fun _ => False) rfl rfl ?aP (fun _ hk => hk.elim) ?aF ?aO ?aB ?aS ?aL ?_; (case aP => exact rfl); (case aB => exact (by repeat (first | (with_reducible first | exact HB.out | apply zA | apply zN | apply zD | refine zq9 ?_ (wG HI0.out)) | exact HB.out))); (case aF => exact (fun k_ hk => (.inr (Nat.le_trans (by first | exact HK.out.1 | exact (show Kept w _ (fun k_ => (P1_ k_) ∨ k_ = g) from by repeat (first | (with_reducible first | exact HK.out | apply Kept.alloc | apply Kept.drewN | apply Kept.drew | refine Kept.setCell ?_ (.inl (.inr rfl)) _) | exact HK.out)).1) hk)))); (case aO => exact (by (with_reducible repeat (first | apply Kd.R_alloc | apply Kd.R_drewN | apply Kd.R_drew)); exact HO1.out)); (case aS => exact (below_size (by repeat (first | (with_reducible first | exact HB.out | apply zA | apply zN | apply zD | refine zq9 ?_ (wG HI0.out)) | exact HB.out)))); (case aL => have := LMc52.out; omega); intro v143 w54 ho hb hg hat; rw [← Ny142.out] at ho; have n0_ := yM (IsS79.grown (by repeat (first | (with_reducible first | exact HI0.out | apply wA | apply wN | apply wD | apply w_0 | apply w_1 | apply w_2 | apply w_3) | exact HI0.out)) hg (IsS79.own_ne HI0.out HO1.out (by decide))); have n1_ := yM (hb); have n2_ := yM (Kept.of_grown (S := (fun k_ => (P1_ k_) ∨ k_ = g)) hg (by repeat (first | (with_reducible first | exact HK.out | apply Kept.alloc | apply Kept.drewN | apply Kept.drew | refine Kept.setCell ?_ (.inl (.inr rfl)) _) | exact HK.out)) (fun k_ e_ => Or.imp_left Or.inl ((HO1.out.1 k_ e_)))); have n3_ := yM (ho); clear HI0; clear HB; clear HK; clear HO1; have HI0 := n0_; have HB := n1_; have HK := n2_; have HO144 := n3_; clear n0_ n1_ n2_ n3_; clear ho hb hg hat))
       go_ret2
       exact ⟨_, by first | rfl | (simp [errW_none, errW_some] <;> rfl) | (simp only [← hji6]; first | rfl | (simp [errW_none, errW_some] <;> rfl)) | (simp [*, errW_none, errW_some] <;> rfl), by (with_reducible repeat (first | apply Kd.R_alloc | apply Kd.R_drewN | apply Kd.R_drew)); exact HO144.out, by repeat (first | (with_reducible first | exact HI0.out | apply wA | apply wN | apply wD | apply w_0 | apply w_1 | apply w_2 | apply w_3) | exact HI0.out), by repeat (first | (with_reducible first | exact HB.out | apply zA | apply zN | apply zD | refine zq9 ?_ (wG HI0.out)) | exact HB.out), by repeat (first | (with_reducible first | exact HK.out | apply Kept.alloc | apply Kept.drewN | apply Kept.drew | refine Kept.setCell ?_ (.inl (.inr rfl)) _) | exact HK.out)⟩
      ·rw [if_neg c52] at H
       exact absurd H (by simp)
   ·rw [if_neg c8] at H
    exact absurd H (by simp)
  ·rw [if_neg c7] at H
   exact absurd H (by simp)
end Go.Proofs.YtbpiahpkbapijaaDoor.J
end
