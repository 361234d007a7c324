-- THIS SESSION'S TEXT: written by plugprint.py out of the translation, with contracts proved by hand.
import Derived.Test.YtabgnbbljjohdaaRDoorAx
import Derived.Test.YtabgnbbljjohdaaRDoorAxQ
namespace Go.Proofs.YtabgnbbljjohdaaRDoor.A
open Go.RowKit Go.Proofs.YtabgnbbljjohdaaRDoorW.PrintWords Go.Proofs.YtabgnbbljjohdaaRDoorW.PrintLast Go.Proofs.YtabgnbbljjohdaaRDoorW.PrintMore
attribute [local go_sem] max2_int min2_int max_two min_two max_three min_three max_four min_four   -- for this text's walks alone
set_option linter.unusedVariables false
set_option linter.unusedSimpArgs false

attribute [local go_sem high] eqA40
/-! ### sigillaw4_ScanBack: function 11 -/
def sigillaw4_ScanBack.j0 : Nat → ByteArray → ByteArray → Bool → Option (Bool)
  | 0, _, _, _ => none
  | k + 1, x0, x3, x26 => if x26 = true then (some false) else ((scan_Unquote.f k x3).bind fun bt414 => ((scan_Tokens.f k x3).bind fun bt416 => (if (x3.size : Int) > 65536 then (if bt414.2 = 2 then (some (bt416.2.2 == 2)) else (some false)) else (if bt414.2 = 0 then (if bt414.1.toList = x0.toList then (if bt416.2.2 = 0 then (if (bt416.1.length : Int) = 2 then (if 0 < (bt416.1.length : Int) then (some (((rd_T40 bt416.1 0).f0) == 3 && (((rd_T40 bt416.1 0).f1) == 0 && ((((rd_T40 bt416.1 0).f2).toList) == x3.toList)))) else (none)) else (some false)) else (some false)) else (some false)) else (some false)))))
def sigillaw4_ScanBack.f (k : Nat) (a0 : ByteArray) : Option (Bool) := (scan_Quote.f k a0).bind fun t413 => (if (t413.size : Int) < 2 then (sigillaw4_ScanBack.j0 k a0 t413 true) else (if 0 < (t413.size : Int) then (if (bt t413 0) = 34 then (if 0 ≤ (wrap64 ((t413.size : Int) - 1)) then (if (wrap64 ((t413.size : Int) - 1)) < (t413.size : Int) then (sigillaw4_ScanBack.j0 k a0 t413 ((bt t413 (wrap64 ((t413.size : Int) - 1))) != 34)) else (none)) else (none)) else (sigillaw4_ScanBack.j0 k a0 t413 true)) else (none)))
theorem sigillaw4_ScanBack.mono_l : ∀ k, (∀ y0 y1 y2, LeO (sigillaw4_ScanBack.j0 k y0 y1 y2) (sigillaw4_ScanBack.j0 (k + 1) y0 y1 y2))
  | 0 => fun _ _ _ r h => by simp [sigillaw4_ScanBack.j0] at h
  | k + 1 => by
    have ih0 := sigillaw4_ScanBack.mono_l k
    · intro y0 y1 y2
      unfold sigillaw4_ScanBack.j0
      repeat' first
      | (with_reducible exact ih0 _ _ _)
      | (with_reducible exact scan_Quote.mono _ _)
      | (with_reducible exact scan_Tokens.mono _ _)
      | (with_reducible exact scan_Unquote.mono _ _)
      | (with_reducible exact LeO.refl _)
      | (with_reducible exact LeO.none _)
      | (with_reducible refine LeO.ite ?_ ?_)
      | (with_reducible refine LeO.bind ?_ (fun _ => ?_))
      | exact ih0 _ _ _
      | exact scan_Quote.mono _ _
      | exact scan_Tokens.mono _ _
      | exact scan_Unquote.mono _ _
      | exact LeO.none _
      | refine LeO.ite ?_ ?_
      | refine LeO.bind ?_ (fun _ => ?_)
theorem sigillaw4_ScanBack.mono : ∀ a0 k, LeO (sigillaw4_ScanBack.f k a0) (sigillaw4_ScanBack.f (k + 1) a0) := by
  intro a0 k
  have ih0 := sigillaw4_ScanBack.mono_l k
  unfold sigillaw4_ScanBack.f
  repeat' first
      | (with_reducible exact ih0 _ _ _)
      | (with_reducible exact scan_Quote.mono _ _)
      | (with_reducible exact scan_Tokens.mono _ _)
      | (with_reducible exact scan_Unquote.mono _ _)
      | (with_reducible exact LeO.refl _)
      | (with_reducible exact LeO.none _)
      | (with_reducible refine LeO.ite ?_ ?_)
      | (with_reducible refine LeO.bind ?_ (fun _ => ?_))
      | exact ih0 _ _ _
      | exact scan_Quote.mono _ _
      | exact scan_Tokens.mono _ _
      | exact scan_Unquote.mono _ _
      | exact LeO.none _
      | refine LeO.ite ?_ ?_
      | refine LeO.bind ?_ (fun _ => ?_)
set_option maxHeartbeats 8000000 in
set_option maxRecDepth 100000 in
theorem sigillaw4_ScanBack.calls (k : Nat) (a0 : ByteArray) (r : Bool) (w : World) (h : sigillaw4_ScanBack.f k a0 = some r) (hL : LaidW w) :
    Calls Tryd.prog 11 #[.string a0] w fun e w' => e = .returned (.bool r) ∧ Below w.heap.size w w' := by
  have HL := Aside0.mk hL
  clear hL
  have hu40 := Tryd.underlying40
  have HB := Aside0.mk (Below.refl w.heap.size w)
  have H : ((scan_Quote.f k a0).bind fun t413 => (if (t413.size : Int) < 2 then (sigillaw4_ScanBack.j0 k a0 t413 true) else (if 0 < (t413.size : Int) then (if (bt t413 0) = 34 then (if 0 ≤ (wrap64 ((t413.size : Int) - 1)) then (if (wrap64 ((t413.size : Int) - 1)) < (t413.size : Int) then (sigillaw4_ScanBack.j0 k a0 t413 ((bt t413 (wrap64 ((t413.size : Int) - 1))) != 34)) else (none)) else (none)) else (sigillaw4_ScanBack.j0 k a0 t413 true)) else (none)))) = some r := h
  clear h
  replace H := Option.bind_eq_some_iff.mp H
  obtain ⟨t413, A20, H⟩ := H
  replace H : (if (t413.size : Int) < 2 then (sigillaw4_ScanBack.j0 k a0 t413 true) else (if 0 < (t413.size : Int) then (if (bt t413 0) = 34 then (if 0 ≤ (wrap64 ((t413.size : Int) - 1)) then (if (wrap64 ((t413.size : Int) - 1)) < (t413.size : Int) then (sigillaw4_ScanBack.j0 k a0 t413 ((bt t413 (wrap64 ((t413.size : Int) - 1))) != 34)) else (none)) else (none)) else (sigillaw4_ScanBack.j0 k a0 t413 true)) else (none))) = some r := H
  have A2 := Aside0.mk A20
  clear A20
  have HC3 := Aside0.mk H
  clear H
  go_enter Tryd.func11, Tryd.ntmps11
  go_upto_region 2 with (first | ((with_reducible refine gate_callee (f := 15) rfl ?_); refine goesL_ (some 10) rfl rfl Tryd.func15 (by kernel_rfl) rfl #[.string a0] rfl (by (try simp only [List.map_toArray, List.map_cons, List.map_nil]); first | done | rfl | (simp only [List.length_drop, List.length_take]; rfl)) ?_; (with_reducible refine (scan_Quote.calls k a0 t413 _ A2.out (LaidW.below HL.out (by repeat (first | (with_reducible first | exact HB.out | apply below_alloc | apply pw_below_drewN | apply below_drew1) | exact HB.out | exact Below.refl _ _)))).mono ?_); rintro e w4 ⟨rfl, hb⟩; refine ⟨_, rfl, ?_⟩; have n0_ := Aside0.mk (below_step (by repeat (first | (with_reducible first | exact HB.out | apply below_alloc | apply pw_below_drewN | apply below_drew1) | exact HB.out)) hb); clear HB; have HB := n0_; clear n0_; (try clear hb); (try clear hb2); (try clear hk); (try clear hi)))
  (try simp only [Act.put, List.setIfInBounds_toArray, List.set_cons_zero, List.set_cons_succ])
  go_cut [26] (fun v26 wc => ∃ (kq : Nat) (x26_2 : Bool), v26 = .bool x26_2 ∧ Aside0 (sigillaw4_ScanBack.j0 kq a0 t413 x26_2 = some r) ∧ Aside0 (kq ≤ k) ∧ Aside0 (Below w.heap.size w wc))
  case first =>
    have H := HC3.out
    clear HC3
    by_cases c5 : (t413.size : Int) < 2
    · rw [if_pos c5] at H
      have c5b0 : decide ((t413.size : Int) < 2) = true := decide_eq_true c5
      have c5b1 : decide (t413.size < 2) = true := decide_eq_true (by omega)
      clear c5
      (first | rw [c5b0] | (simp only [i64_w, i32_w]; rw [c5b0]) | skip)
      have H' := Aside0.mk H
      clear H
      go_wp2
      go_meet
      case rel => exact ⟨_, (true), (by first | rfl | (simp; done) | (simp [*]; done)), H', ⟨by first | omega | exact Nat.le_refl _⟩, ⟨by repeat (first | (with_reducible first | exact HB.out | apply below_alloc | apply pw_below_drewN | apply below_drew1) | exact HB.out)⟩⟩
    · rw [if_neg c5] at H
      have c5b0 : decide ((t413.size : Int) < 2) = false := decide_eq_false c5
      have c5b1 : decide (t413.size < 2) = false := decide_eq_false (by omega)
      clear c5
      (first | rw [c5b0] | (simp only [i64_w, i32_w]; rw [c5b0]) | skip)
      by_cases c6 : 0 < (t413.size : Int)
      · rw [if_pos c6] at H
        have c6b0 : decide (0 < (t413.size : Int)) = true := decide_eq_true c6
        have c6b1 : decide (0 < t413.size) = true := decide_eq_true (by omega)
        clear c6
        by_cases c8 : (bt t413 0) = 34
        · rw [if_pos c8] at H
          have c8b0 : ((bt t413 0) == 34) = true := beq_iff_eq.mpr c8
          have c8b1 : ((bt t413 0) != 34) = false := bne_eq_false_iff_eq.mpr c8
          clear c8
          obtain ⟨ji9, hji9⟩ : ∃ j_ : Int, (wrap64 ((t413.size : Int) - 1)) = j_ := ⟨_, rfl⟩
          replace H : (if 0 ≤ (ji9) then (if (ji9) < (t413.size : Int) then (sigillaw4_ScanBack.j0 k a0 t413 ((bt t413 (ji9)) != 34)) else (none)) else (none)) = some r := by first | (rw [hji9] at H; exact H) | (simp only [hji9] at H ⊢; exact H)
          have hji9w : (IntKind.i64.wrap ((t413.size : Int) - 1)) = ji9 := (i64_w _).trans hji9
          by_cases c10 : 0 ≤ (ji9)
          · rw [if_pos c10] at H
            have c10b0 : decide (0 ≤ (ji9)) = true := decide_eq_true c10
            clear c10
            by_cases c11 : (ji9) < (t413.size : Int)
            · rw [if_pos c11] at H
              have c11b0 : decide ((ji9) < (t413.size : Int)) = true := decide_eq_true c11
              clear c11
              have H' := Aside0.mk H
              clear H
              have p7 : 0 ≤ (0 : Int) := (by omega)
              have q7 : 0 < t413.size := (by have : (0 : Int) < (t413.size : Int) := of_decide_eq_true (by first | (with_reducible assumption) | assumption); omega)
              have hx7 : ∀ h : 0 < t413.size, ((t413[0]'h).toNat : Int) = bt t413 0 := bt_at t413 0
              clear p7
              have qi7 : (0 < (t413.size : Int)) = True := eq_true (of_decide_eq_true (by first | (with_reducible assumption) | assumption))
              replace q7 := eq_true q7
              have p12 : 0 ≤ ((ji9) : Int) := of_decide_eq_true (by first | (with_reducible assumption) | assumption)
              have q12 : (ji9) < (t413.size : Int) := of_decide_eq_true (by first | (with_reducible assumption) | assumption)
              have hx12 := bt_at t413 (ji9)
              replace p12 := eq_true p12
              replace q12 := eq_true q12
              go_wp2
              go_meet
              case rel => exact ⟨_, (((bt t413 (ji9)) != 34)), (by first | rfl | (simp; done) | (simp only [← hji9] <;> (first | rfl | simp)) | (simp [*]; done)), H', ⟨by first | omega | exact Nat.le_refl _⟩, ⟨by repeat (first | (with_reducible first | exact HB.out | apply below_alloc | apply pw_below_drewN | apply below_drew1) | exact HB.out)⟩⟩
            · rw [if_neg c11] at H
              exact absurd H (by simp)
          · rw [if_neg c10] at H
            exact absurd H (by simp)
        · rw [if_neg c8] at H
          have c8b0 : ((bt t413 0) == 34) = false := beq_eq_false_iff_ne.mpr c8
          have c8b1 : ((bt t413 0) != 34) = true := bne_iff_ne.mpr c8
          have H' := Aside0.mk H
          clear H
          have p7 : 0 ≤ (0 : Int) := (by omega)
          have q7 : 0 < t413.size := (by have : (0 : Int) < (t413.size : Int) := of_decide_eq_true (by first | (with_reducible assumption) | assumption); omega)
          have hx7 : ∀ h : 0 < t413.size, ((t413[0]'h).toNat : Int) = bt t413 0 := bt_at t413 0
          clear p7
          have qi7 : (0 < (t413.size : Int)) = True := eq_true (of_decide_eq_true (by first | (with_reducible assumption) | assumption))
          replace q7 := eq_true q7
          go_wp2
          go_meet
          case rel => exact ⟨_, (true), (by first | rfl | (simp; done) | (simp [*]; done)), H', ⟨by first | omega | exact Nat.le_refl _⟩, ⟨by repeat (first | (with_reducible first | exact HB.out | apply below_alloc | apply pw_below_drewN | apply below_drew1) | exact HB.out)⟩⟩
      · rw [if_neg c6] at H
        exact absurd H (by simp)
  case rest =>
    clear HC3
    try clear c1
    try clear p1
    try clear q1
    try clear hx1
    try clear p2
    try clear c5
    try clear c5b0
    try clear c5b1
    try clear c6
    try clear c6b0
    try clear c6b1
    try clear p6
    try clear p7
    try clear q7
    try clear hx7
    try clear qi7
    try clear c8
    try clear c8b0
    try clear c8b1
    try clear c10
    try clear c10b0
    try clear c11
    try clear c11b0
    try clear p12
    try clear q12
    try clear hx12
    try clear p12
    try clear p7
    try clear q12
    try clear q7
    obtain ⟨kq, x26_2, rfl, HA, HJ2, HB⟩ := hcut
    cases kq with
    | zero => exact absurd HA.out (by simp [sigillaw4_ScanBack.j0])
    | succ kj2 =>
      have H := HA.out
      clear HA
      simp only [sigillaw4_ScanBack.j0] at H
      by_cases c13 : x26_2 = true
      · subst c13
        have H1 : (some false) = some r := by rw [if_pos rfl] at H; exact H
        clear H
        have H := H1
        clear H1
        obtain rfl := Option.some.inj H
        go_wp2
        go_ret
        exact ⟨by first | rfl | (simp [errW_none, errW_some] <;> rfl) | (simp [*, errW_none, errW_some] <;> rfl), by repeat (first | (with_reducible first | exact HB.out | apply below_alloc | apply pw_below_drewN | apply below_drew1) | exact HB.out)⟩
      · replace c13 := Bool.eq_false_iff.mpr c13
        subst c13
        have H1 : ((scan_Unquote.f kj2 t413).bind fun bt414 => ((scan_Tokens.f kj2 t413).bind fun bt416 => (if (t413.size : Int) > 65536 then (if bt414.2 = 2 then (some (bt416.2.2 == 2)) else (some false)) else (if bt414.2 = 0 then (if bt414.1.toList = a0.toList then (if bt416.2.2 = 0 then (if (bt416.1.length : Int) = 2 then (if 0 < (bt416.1.length : Int) then (some (((rd_T40 bt416.1 0).f0) == 3 && (((rd_T40 bt416.1 0).f1) == 0 && ((((rd_T40 bt416.1 0).f2).toList) == t413.toList)))) else (none)) else (some false)) else (some false)) else (some false)) else (some false))))) = some r := by rw [if_neg (show ¬ (false = true) by decide)] at H; exact H
        clear H
        have H := H1
        clear H1
        replace H := Option.bind_eq_some_iff.mp H
        obtain ⟨⟨t414, t415⟩, A140, H⟩ := H
        replace H : ((scan_Tokens.f kj2 t413).bind fun bt416 => (if (t413.size : Int) > 65536 then (if t415 = 2 then (some (bt416.2.2 == 2)) else (some false)) else (if t415 = 0 then (if t414.toList = a0.toList then (if bt416.2.2 = 0 then (if (bt416.1.length : Int) = 2 then (if 0 < (bt416.1.length : Int) then (some (((rd_T40 bt416.1 0).f0) == 3 && (((rd_T40 bt416.1 0).f1) == 0 && ((((rd_T40 bt416.1 0).f2).toList) == t413.toList)))) else (none)) else (some false)) else (some false)) else (some false)) else (some false)))) = some r := H
        have A14 := Aside0.mk A140
        clear A140
        replace H := Option.bind_eq_some_iff.mp H
        obtain ⟨⟨t416, t417, t418⟩, A150, H⟩ := H
        replace H : (if (t413.size : Int) > 65536 then (if t415 = 2 then (some (t418 == 2)) else (some false)) else (if t415 = 0 then (if t414.toList = a0.toList then (if t418 = 0 then (if (t416.length : Int) = 2 then (if 0 < (t416.length : Int) then (some (((rd_T40 t416 0).f0) == 3 && (((rd_T40 t416 0).f1) == 0 && ((((rd_T40 t416 0).f2).toList) == t413.toList)))) else (none)) else (some false)) else (some false)) else (some false)) else (some false))) = some r := H
        have A15 := Aside0.mk A150
        clear A150
        by_cases c16 : (t413.size : Int) > 65536
        · rw [if_pos c16] at H
          have c16b0 : decide (65536 < (t413.size : Int)) = true := decide_eq_true c16
          have c16b1 : decide (65536 < t413.size) = true := decide_eq_true (by omega)
          clear c16
          by_cases c17 : t415 = 2
          · rw [if_pos c17] at H
            have c17b0 : (t415 == 2) = true := beq_iff_eq.mpr c17
            have c17b1 : (t415 != 2) = false := bne_eq_false_iff_eq.mpr c17
            clear c17
            obtain rfl := Option.some.inj H
            go_wp2_with (first | ((with_reducible refine gate_callee (f := 17) rfl ?_); refine goesL_ (some 29) rfl rfl Tryd.func17 (by kernel_rfl) rfl #[.string t413] rfl (by (try simp only [List.map_toArray, List.map_cons, List.map_nil]); first | done | rfl | (simp only [List.length_drop, List.length_take]; rfl)) ?_; (with_reducible refine (scan_Unquote.calls kj2 t413 t414 t415 _ A14.out (LaidW.below HL.out (by repeat (first | (with_reducible first | exact HB.out | apply below_alloc | apply pw_below_drewN | apply below_drew1) | exact HB.out | exact Below.refl _ _)))).mono ?_); rintro e w18 ⟨rfl, hb⟩; refine ⟨_, rfl, ?_⟩; have n0_ := Aside0.mk (below_step (by repeat (first | (with_reducible first | exact HB.out | apply below_alloc | apply pw_below_drewN | apply below_drew1) | exact HB.out)) hb); clear HB; have HB := n0_; clear n0_; (try clear hb); (try clear hb2); (try clear hk); (try clear hi)) | ((with_reducible refine gate_callee (f := 21) rfl ?_); refine goesL_ (some 34) rfl rfl Tryd.func21 (by kernel_rfl) rfl #[.string t413] rfl (by (try simp only [List.map_toArray, List.map_cons, List.map_nil]); first | done | rfl | (simp only [List.length_drop, List.length_take]; rfl)) ?_; (with_reducible refine (scan_Tokens.calls kj2 t413 t416 t417 t418 _ A15.out (LaidW.below HL.out (by repeat (first | (with_reducible first | exact HB.out | apply below_alloc | apply pw_below_drewN | apply below_drew1) | exact HB.out | exact Below.refl _ _)))).mono ?_); rintro e w19 ⟨v419, rfl, ho0, hb⟩; refine ⟨_, rfl, ?_⟩; have n0_ := Aside0.mk (Kd.R_lower ho0 (below_size (by repeat (first | (with_reducible first | exact HB.out | apply below_alloc | apply pw_below_drewN | apply below_drew1) | exact HB.out)))); have n1_ := Aside0.mk (below_step (by repeat (first | (with_reducible first | exact HB.out | apply below_alloc | apply pw_below_drewN | apply below_drew1) | exact HB.out)) hb); clear HB; have HO420 := n0_; have HB := n1_; clear n0_ n1_; (try clear hb); (try clear hb2); (try clear hk); (try clear hi); (try clear ho0)))
            go_ret
            exact ⟨by first | rfl | (simp [errW_none, errW_some] <;> rfl) | (simp [*, errW_none, errW_some] <;> rfl), by repeat (first | (with_reducible first | exact HB.out | apply below_alloc | apply pw_below_drewN | apply below_drew1) | exact HB.out)⟩
          · rw [if_neg c17] at H
            have c17b0 : (t415 == 2) = false := beq_eq_false_iff_ne.mpr c17
            have c17b1 : (t415 != 2) = true := bne_iff_ne.mpr c17
            obtain rfl := Option.some.inj H
            go_wp2_with (first | ((with_reducible refine gate_callee (f := 17) rfl ?_); refine goesL_ (some 29) rfl rfl Tryd.func17 (by kernel_rfl) rfl #[.string t413] rfl (by (try simp only [List.map_toArray, List.map_cons, List.map_nil]); first | done | rfl | (simp only [List.length_drop, List.length_take]; rfl)) ?_; (with_reducible refine (scan_Unquote.calls kj2 t413 t414 t415 _ A14.out (LaidW.below HL.out (by repeat (first | (with_reducible first | exact HB.out | apply below_alloc | apply pw_below_drewN | apply below_drew1) | exact HB.out | exact Below.refl _ _)))).mono ?_); rintro e w20 ⟨rfl, hb⟩; refine ⟨_, rfl, ?_⟩; have n0_ := Aside0.mk (below_step (by repeat (first | (with_reducible first | exact HB.out | apply below_alloc | apply pw_below_drewN | apply below_drew1) | exact HB.out)) hb); clear HB; have HB := n0_; clear n0_; (try clear hb); (try clear hb2); (try clear hk); (try clear hi)) | ((with_reducible refine gate_callee (f := 21) rfl ?_); refine goesL_ (some 34) rfl rfl Tryd.func21 (by kernel_rfl) rfl #[.string t413] rfl (by (try simp only [List.map_toArray, List.map_cons, List.map_nil]); first | done | rfl | (simp only [List.length_drop, List.length_take]; rfl)) ?_; (with_reducible refine (scan_Tokens.calls kj2 t413 t416 t417 t418 _ A15.out (LaidW.below HL.out (by repeat (first | (with_reducible first | exact HB.out | apply below_alloc | apply pw_below_drewN | apply below_drew1) | exact HB.out | exact Below.refl _ _)))).mono ?_); rintro e w21 ⟨v419, rfl, ho0, hb⟩; refine ⟨_, rfl, ?_⟩; have n0_ := Aside0.mk (Kd.R_lower ho0 (below_size (by repeat (first | (with_reducible first | exact HB.out | apply below_alloc | apply pw_below_drewN | apply below_drew1) | exact HB.out)))); have n1_ := Aside0.mk (below_step (by repeat (first | (with_reducible first | exact HB.out | apply below_alloc | apply pw_below_drewN | apply below_drew1) | exact HB.out)) hb); clear HB; have HO420 := n0_; have HB := n1_; clear n0_ n1_; (try clear hb); (try clear hb2); (try clear hk); (try clear hi); (try clear ho0)))
            go_ret
            exact ⟨by first | rfl | (simp [errW_none, errW_some] <;> rfl) | (simp [*, errW_none, errW_some] <;> rfl), by repeat (first | (with_reducible first | exact HB.out | apply below_alloc | apply pw_below_drewN | apply below_drew1) | exact HB.out)⟩
        · rw [if_neg c16] at H
          have c16b0 : decide (65536 < (t413.size : Int)) = false := decide_eq_false c16
          have c16b1 : decide (65536 < t413.size) = false := decide_eq_false (by omega)
          clear c16
          by_cases c22 : t415 = 0
          · rw [if_pos c22] at H
            have c22b0 : (t415 == 0) = true := beq_iff_eq.mpr c22
            have c22b1 : (t415 != 0) = false := bne_eq_false_iff_eq.mpr c22
            clear c22
            by_cases c23 : t414.toList = a0.toList
            · rw [if_pos c23] at H
              have c23b0 : (t414.toList == a0.toList) = true := beq_iff_eq.mpr c23
              have c23b1 : (t414.toList != a0.toList) = false := bne_eq_false_iff_eq.mpr c23
              clear c23
              by_cases c24 : t418 = 0
              · rw [if_pos c24] at H
                have c24b0 : (t418 == 0) = true := beq_iff_eq.mpr c24
                have c24b1 : (t418 != 0) = false := bne_eq_false_iff_eq.mpr c24
                clear c24
                by_cases c25 : (t416.length : Int) = 2
                · rw [if_pos c25] at H
                  have c25b0 : ((t416.length : Int) == 2) = true := beq_iff_eq.mpr c25
                  have c25b1 : ((t416.length : Int) != 2) = false := bne_eq_false_iff_eq.mpr c25
                  clear c25
                  by_cases c26 : 0 < (t416.length : Int)
                  · rw [if_pos c26] at H
                    have c26b0 : decide (0 < (t416.length : Int)) = true := decide_eq_true c26
                    have c26b1 : decide (0 < t416.length) = true := decide_eq_true (by omega)
                    clear c26
                    obtain rfl := Option.some.inj H
                    go_wp2_with (first | ((with_reducible refine gate_callee (f := 17) rfl ?_); refine goesL_ (some 29) rfl rfl Tryd.func17 (by kernel_rfl) rfl #[.string t413] rfl (by (try simp only [List.map_toArray, List.map_cons, List.map_nil]); first | done | rfl | (simp only [List.length_drop, List.length_take]; rfl)) ?_; (with_reducible refine (scan_Unquote.calls kj2 t413 t414 t415 _ A14.out (LaidW.below HL.out (by repeat (first | (with_reducible first | exact HB.out | apply below_alloc | apply pw_below_drewN | apply below_drew1) | exact HB.out | exact Below.refl _ _)))).mono ?_); rintro e w27 ⟨rfl, hb⟩; refine ⟨_, rfl, ?_⟩; have n0_ := Aside0.mk (below_step (by repeat (first | (with_reducible first | exact HB.out | apply below_alloc | apply pw_below_drewN | apply below_drew1) | exact HB.out)) hb); clear HB; have HB := n0_; clear n0_; (try clear hb); (try clear hb2); (try clear hk); (try clear hi)) | ((with_reducible refine gate_callee (f := 21) rfl ?_); refine goesL_ (some 34) rfl rfl Tryd.func21 (by kernel_rfl) rfl #[.string t413] rfl (by (try simp only [List.map_toArray, List.map_cons, List.map_nil]); first | done | rfl | (simp only [List.length_drop, List.length_take]; rfl)) ?_; (with_reducible refine (scan_Tokens.calls kj2 t413 t416 t417 t418 _ A15.out (LaidW.below HL.out (by repeat (first | (with_reducible first | exact HB.out | apply below_alloc | apply pw_below_drewN | apply below_drew1) | exact HB.out | exact Below.refl _ _)))).mono ?_); rintro e w28 ⟨v419, rfl, ho0, hb⟩; refine ⟨_, rfl, ?_⟩; have n0_ := Aside0.mk (Kd.R_lower ho0 (below_size (by repeat (first | (with_reducible first | exact HB.out | apply below_alloc | apply pw_below_drewN | apply below_drew1) | exact HB.out)))); have n1_ := Aside0.mk (below_step (by repeat (first | (with_reducible first | exact HB.out | apply below_alloc | apply pw_below_drewN | apply below_drew1) | exact HB.out)) hb); clear HB; have HO420 := n0_; have HB := n1_; clear n0_ n1_; (try clear hb); (try clear hb2); (try clear hk); (try clear hi); (try clear ho0); obtain ⟨Ao29, co29, eo29⟩ := Kd.R_slice HO420.out; subst eo29; have p421 : 0 ≤ (0 : Int) := (by omega); have q421 : 0 < (t416.length : Int) := of_decide_eq_true (by first | (with_reducible assumption) | assumption); obtain ⟨ad421, e421, hx421_0, hx421_1, hx421_2⟩ := at_T40 (Kd.R_reads' HO420.out).2.2 0 p421 q421; cases e421; have qi421 : (0 < t416.length) = True := eq_true (by omega); (try rw [show ((0 : Int)).toNat = 0 from rfl] at hx421_0); (try rw [show 0 * 3 = 0 from rfl] at hx421_0); (try rw [Addr.add_zero'] at hx421_0); (try rw [show ((0 : Int)).toNat = 0 from rfl] at hx421_1); (try rw [show 0 * 3 = 0 from rfl] at hx421_1); (try rw [Addr.add_zero'] at hx421_1); (try rw [show ((0 : Int)).toNat = 0 from rfl] at hx421_2); (try rw [show 0 * 3 = 0 from rfl] at hx421_2); (try rw [Addr.add_zero'] at hx421_2); replace p421 := eq_true p421; replace q421 := eq_true q421))
                    go_ret
                    exact ⟨by first | rfl | (simp [errW_none, errW_some] <;> rfl) | (simp [*, errW_none, errW_some] <;> rfl), by repeat (first | (with_reducible first | exact HB.out | apply below_alloc | apply pw_below_drewN | apply below_drew1) | exact HB.out)⟩
                  · rw [if_neg c26] at H
                    exact absurd H (by simp)
                · rw [if_neg c25] at H
                  have c25b0 : ((t416.length : Int) == 2) = false := beq_eq_false_iff_ne.mpr c25
                  have c25b1 : ((t416.length : Int) != 2) = true := bne_iff_ne.mpr c25
                  obtain rfl := Option.some.inj H
                  go_wp2_with (first | ((with_reducible refine gate_callee (f := 17) rfl ?_); refine goesL_ (some 29) rfl rfl Tryd.func17 (by kernel_rfl) rfl #[.string t413] rfl (by (try simp only [List.map_toArray, List.map_cons, List.map_nil]); first | done | rfl | (simp only [List.length_drop, List.length_take]; rfl)) ?_; (with_reducible refine (scan_Unquote.calls kj2 t413 t414 t415 _ A14.out (LaidW.below HL.out (by repeat (first | (with_reducible first | exact HB.out | apply below_alloc | apply pw_below_drewN | apply below_drew1) | exact HB.out | exact Below.refl _ _)))).mono ?_); rintro e w30 ⟨rfl, hb⟩; refine ⟨_, rfl, ?_⟩; have n0_ := Aside0.mk (below_step (by repeat (first | (with_reducible first | exact HB.out | apply below_alloc | apply pw_below_drewN | apply below_drew1) | exact HB.out)) hb); clear HB; have HB := n0_; clear n0_; (try clear hb); (try clear hb2); (try clear hk); (try clear hi)) | ((with_reducible refine gate_callee (f := 21) rfl ?_); refine goesL_ (some 34) rfl rfl Tryd.func21 (by kernel_rfl) rfl #[.string t413] rfl (by (try simp only [List.map_toArray, List.map_cons, List.map_nil]); first | done | rfl | (simp only [List.length_drop, List.length_take]; rfl)) ?_; (with_reducible refine (scan_Tokens.calls kj2 t413 t416 t417 t418 _ A15.out (LaidW.below HL.out (by repeat (first | (with_reducible first | exact HB.out | apply below_alloc | apply pw_below_drewN | apply below_drew1) | exact HB.out | exact Below.refl _ _)))).mono ?_); rintro e w31 ⟨v419, rfl, ho0, hb⟩; refine ⟨_, rfl, ?_⟩; have n0_ := Aside0.mk (Kd.R_lower ho0 (below_size (by repeat (first | (with_reducible first | exact HB.out | apply below_alloc | apply pw_below_drewN | apply below_drew1) | exact HB.out)))); have n1_ := Aside0.mk (below_step (by repeat (first | (with_reducible first | exact HB.out | apply below_alloc | apply pw_below_drewN | apply below_drew1) | exact HB.out)) hb); clear HB; have HO420 := n0_; have HB := n1_; clear n0_ n1_; (try clear hb); (try clear hb2); (try clear hk); (try clear hi); (try clear ho0); obtain ⟨Ao32, co32, eo32⟩ := Kd.R_slice HO420.out; subst eo32))
                  go_ret
                  exact ⟨by first | rfl | (simp [errW_none, errW_some] <;> rfl) | (simp [*, errW_none, errW_some] <;> rfl), by repeat (first | (with_reducible first | exact HB.out | apply below_alloc | apply pw_below_drewN | apply below_drew1) | exact HB.out)⟩
              · rw [if_neg c24] at H
                have c24b0 : (t418 == 0) = false := beq_eq_false_iff_ne.mpr c24
                have c24b1 : (t418 != 0) = true := bne_iff_ne.mpr c24
                obtain rfl := Option.some.inj H
                go_wp2_with (first | ((with_reducible refine gate_callee (f := 17) rfl ?_); refine goesL_ (some 29) rfl rfl Tryd.func17 (by kernel_rfl) rfl #[.string t413] rfl (by (try simp only [List.map_toArray, List.map_cons, List.map_nil]); first | done | rfl | (simp only [List.length_drop, List.length_take]; rfl)) ?_; (with_reducible refine (scan_Unquote.calls kj2 t413 t414 t415 _ A14.out (LaidW.below HL.out (by repeat (first | (with_reducible first | exact HB.out | apply below_alloc | apply pw_below_drewN | apply below_drew1) | exact HB.out | exact Below.refl _ _)))).mono ?_); rintro e w33 ⟨rfl, hb⟩; refine ⟨_, rfl, ?_⟩; have n0_ := Aside0.mk (below_step (by repeat (first | (with_reducible first | exact HB.out | apply below_alloc | apply pw_below_drewN | apply below_drew1) | exact HB.out)) hb); clear HB; have HB := n0_; clear n0_; (try clear hb); (try clear hb2); (try clear hk); (try clear hi)) | ((with_reducible refine gate_callee (f := 21) rfl ?_); refine goesL_ (some 34) rfl rfl Tryd.func21 (by kernel_rfl) rfl #[.string t413] rfl (by (try simp only [List.map_toArray, List.map_cons, List.map_nil]); first | done | rfl | (simp only [List.length_drop, List.length_take]; rfl)) ?_; (with_reducible refine (scan_Tokens.calls kj2 t413 t416 t417 t418 _ A15.out (LaidW.below HL.out (by repeat (first | (with_reducible first | exact HB.out | apply below_alloc | apply pw_below_drewN | apply below_drew1) | exact HB.out | exact Below.refl _ _)))).mono ?_); rintro e w34 ⟨v419, rfl, ho0, hb⟩; refine ⟨_, rfl, ?_⟩; have n0_ := Aside0.mk (Kd.R_lower ho0 (below_size (by repeat (first | (with_reducible first | exact HB.out | apply below_alloc | apply pw_below_drewN | apply below_drew1) | exact HB.out)))); have n1_ := Aside0.mk (below_step (by repeat (first | (with_reducible first | exact HB.out | apply below_alloc | apply pw_below_drewN | apply below_drew1) | exact HB.out)) hb); clear HB; have HO420 := n0_; have HB := n1_; clear n0_ n1_; (try clear hb); (try clear hb2); (try clear hk); (try clear hi); (try clear ho0)))
                go_ret
                exact ⟨by first | rfl | (simp [errW_none, errW_some] <;> rfl) | (simp [*, errW_none, errW_some] <;> rfl), by repeat (first | (with_reducible first | exact HB.out | apply below_alloc | apply pw_below_drewN | apply below_drew1) | exact HB.out)⟩
            · rw [if_neg c23] at H
              have c23b0 : (t414.toList == a0.toList) = false := beq_eq_false_iff_ne.mpr c23
              have c23b1 : (t414.toList != a0.toList) = true := bne_iff_ne.mpr c23
              obtain rfl := Option.some.inj H
              go_wp2_with (first | ((with_reducible refine gate_callee (f := 17) rfl ?_); refine goesL_ (some 29) rfl rfl Tryd.func17 (by kernel_rfl) rfl #[.string t413] rfl (by (try simp only [List.map_toArray, List.map_cons, List.map_nil]); first | done | rfl | (simp only [List.length_drop, List.length_take]; rfl)) ?_; (with_reducible refine (scan_Unquote.calls kj2 t413 t414 t415 _ A14.out (LaidW.below HL.out (by repeat (first | (with_reducible first | exact HB.out | apply below_alloc | apply pw_below_drewN | apply below_drew1) | exact HB.out | exact Below.refl _ _)))).mono ?_); rintro e w35 ⟨rfl, hb⟩; refine ⟨_, rfl, ?_⟩; have n0_ := Aside0.mk (below_step (by repeat (first | (with_reducible first | exact HB.out | apply below_alloc | apply pw_below_drewN | apply below_drew1) | exact HB.out)) hb); clear HB; have HB := n0_; clear n0_; (try clear hb); (try clear hb2); (try clear hk); (try clear hi)) | ((with_reducible refine gate_callee (f := 21) rfl ?_); refine goesL_ (some 34) rfl rfl Tryd.func21 (by kernel_rfl) rfl #[.string t413] rfl (by (try simp only [List.map_toArray, List.map_cons, List.map_nil]); first | done | rfl | (simp only [List.length_drop, List.length_take]; rfl)) ?_; (with_reducible refine (scan_Tokens.calls kj2 t413 t416 t417 t418 _ A15.out (LaidW.below HL.out (by repeat (first | (with_reducible first | exact HB.out | apply below_alloc | apply pw_below_drewN | apply below_drew1) | exact HB.out | exact Below.refl _ _)))).mono ?_); rintro e w36 ⟨v419, rfl, ho0, hb⟩; refine ⟨_, rfl, ?_⟩; have n0_ := Aside0.mk (Kd.R_lower ho0 (below_size (by repeat (first | (with_reducible first | exact HB.out | apply below_alloc | apply pw_below_drewN | apply below_drew1) | exact HB.out)))); have n1_ := Aside0.mk (below_step (by repeat (first | (with_reducible first | exact HB.out | apply below_alloc | apply pw_below_drewN | apply below_drew1) | exact HB.out)) hb); clear HB; have HO420 := n0_; have HB := n1_; clear n0_ n1_; (try clear hb); (try clear hb2); (try clear hk); (try clear hi); (try clear ho0)))
              go_ret
              exact ⟨by first | rfl | (simp [errW_none, errW_some] <;> rfl) | (simp [*, errW_none, errW_some] <;> rfl), by repeat (first | (with_reducible first | exact HB.out | apply below_alloc | apply pw_below_drewN | apply below_drew1) | exact HB.out)⟩
          · rw [if_neg c22] at H
            have c22b0 : (t415 == 0) = false := beq_eq_false_iff_ne.mpr c22
            have c22b1 : (t415 != 0) = true := bne_iff_ne.mpr c22
            obtain rfl := Option.some.inj H
            go_wp2_with (first | ((with_reducible refine gate_callee (f := 17) rfl ?_); refine goesL_ (some 29) rfl rfl Tryd.func17 (by kernel_rfl) rfl #[.string t413] rfl (by (try simp only [List.map_toArray, List.map_cons, List.map_nil]); first | done | rfl | (simp only [List.length_drop, List.length_take]; rfl)) ?_; (with_reducible refine (scan_Unquote.calls kj2 t413 t414 t415 _ A14.out (LaidW.below HL.out (by repeat (first | (with_reducible first | exact HB.out | apply below_alloc | apply pw_below_drewN | apply below_drew1) | exact HB.out | exact Below.refl _ _)))).mono ?_); rintro e w37 ⟨rfl, hb⟩; refine ⟨_, rfl, ?_⟩; have n0_ := Aside0.mk (below_step (by repeat (first | (with_reducible first | exact HB.out | apply below_alloc | apply pw_below_drewN | apply below_drew1) | exact HB.out)) hb); clear HB; have HB := n0_; clear n0_; (try clear hb); (try clear hb2); (try clear hk); (try clear hi)) | ((with_reducible refine gate_callee (f := 21) rfl ?_); refine goesL_ (some 34) rfl rfl Tryd.func21 (by kernel_rfl) rfl #[.string t413] rfl (by (try simp only [List.map_toArray, List.map_cons, List.map_nil]); first | done | rfl | (simp only [List.length_drop, List.length_take]; rfl)) ?_; (with_reducible refine (scan_Tokens.calls kj2 t413 t416 t417 t418 _ A15.out (LaidW.below HL.out (by repeat (first | (with_reducible first | exact HB.out | apply below_alloc | apply pw_below_drewN | apply below_drew1) | exact HB.out | exact Below.refl _ _)))).mono ?_); rintro e w38 ⟨v419, rfl, ho0, hb⟩; refine ⟨_, rfl, ?_⟩; have n0_ := Aside0.mk (Kd.R_lower ho0 (below_size (by repeat (first | (with_reducible first | exact HB.out | apply below_alloc | apply pw_below_drewN | apply below_drew1) | exact HB.out)))); have n1_ := Aside0.mk (below_step (by repeat (first | (with_reducible first | exact HB.out | apply below_alloc | apply pw_below_drewN | apply below_drew1) | exact HB.out)) hb); clear HB; have HO420 := n0_; have HB := n1_; clear n0_ n1_; (try clear hb); (try clear hb2); (try clear hk); (try clear hi); (try clear ho0)))
            go_ret
            exact ⟨by first | rfl | (simp [errW_none, errW_some] <;> rfl) | (simp [*, errW_none, errW_some] <;> rfl), by repeat (first | (with_reducible first | exact HB.out | apply below_alloc | apply pw_below_drewN | apply below_drew1) | exact HB.out)⟩

/-- THE ONE PURE STATEMENT of sigillaw4_ScanBack: yours. -/
def sigillaw4_ScanBack.Pure : Prop := ∀ (a0 : ByteArray), a0.size ≤ 140737488351232 → ∃ k, sigillaw4_ScanBack.f k a0 = some true

end Go.Proofs.YtabgnbbljjohdaaRDoor.A
