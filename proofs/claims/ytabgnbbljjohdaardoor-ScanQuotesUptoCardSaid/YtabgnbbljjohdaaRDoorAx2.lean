-- THIS SESSION'S TEXT: written by plugprint.py out of the translation, with contracts proved by hand.
import Derived.Test.YtabgnbbljjohdaaRDoorAx0
namespace Go.Proofs.YtabgnbbljjohdaaRDoor.A
open Go.RowKit Go.Proofs.YtabgnbbljjohdaaRDoorW.PrintWords Go.Proofs.YtabgnbbljjohdaaRDoorW.PrintLast Go.Proofs.YtabgnbbljjohdaaRDoorW.PrintMore
attribute [local go_sem] max2_int min2_int max_two min_two max_three min_three max_four min_four   -- for this text's walks alone
set_option linter.unusedVariables false
set_option linter.unusedSimpArgs false

/-! ### wire_character: function 50 -/
def wire_row (i : Int) : Int × Int × Int × Int × Int := RowTab.getD i.toNat (0, 0, 0, 0, 0)
def wlo (i : Int) : Int := (wire_row i).1
def whi (i : Int) : Int := (wire_row i).2.1
def wlo2 (i : Int) : Int := (wire_row i).2.2.1
def whi2 (i : Int) : Int := (wire_row i).2.2.2.1
def wmore (i : Int) : Int := (wire_row i).2.2.2.2
def wire_character.l1 : Nat → ByteArray → Int → Int → Int → Option (Int)
  | 0, _, _, _, _ => none
  | k + 1, s, at_, i, j => if j ≤ wmore i then (if 0 ≤ wrap64 (at_ + j) then (if wrap64 (at_ + j) < (s.size : Int) then (if bt s (wrap64 (at_ + j)) < (if j = 1 then wlo2 i else 128) then some 0 else (if bt s (wrap64 (at_ + j)) > (if j = 1 then whi2 i else 191) then some 0 else wire_character.l1 k s at_ i (wrap64 (j + 1)))) else none) else none) else some (1 + wmore i)
def wire_character.l0 : Nat → ByteArray → Int → Int → Option (Int)
  | 0, _, _, _ => none
  | k + 1, s, at_, i => if i < 9 then (if 0 ≤ at_ then (if at_ < (s.size : Int) then (if bt s at_ < wlo i then wire_character.l0 k s at_ (wrap64 (i + 1)) else (if bt s at_ > whi i then wire_character.l0 k s at_ (wrap64 (i + 1)) else (if wrap64 (at_ + wmore i) ≥ (s.size : Int) then some 0 else wire_character.l1 k s at_ i 1))) else none) else none) else some 0
def wire_character.f (k : Nat) (a0 : ByteArray) (a1 : Int) : Option (Int) := wire_character.l0 k a0 a1 0
theorem wire_character.mono_l : ∀ k, (∀ y0 y1 y2, LeO (wire_character.l0 k y0 y1 y2) (wire_character.l0 (k + 1) y0 y1 y2)) ∧ (∀ y0 y1 y2 y3, LeO (wire_character.l1 k y0 y1 y2 y3) (wire_character.l1 (k + 1) y0 y1 y2 y3))
  | 0 => ⟨fun _ _ _ r h => by simp [wire_character.l0] at h, fun _ _ _ _ r h => by simp [wire_character.l1] at h⟩
  | k + 1 => by
    obtain ⟨ih0, ih1⟩ := wire_character.mono_l k
    refine ⟨?_, ?_⟩
    · intro y0 y1 y2
      unfold wire_character.l0
      repeat' first
      | (with_reducible exact ih0 _ _ _)
      | (with_reducible exact ih1 _ _ _ _)
      | (with_reducible exact LeO.refl _)
      | (with_reducible exact LeO.none _)
      | (with_reducible refine LeO.ite ?_ ?_)
    · intro y0 y1 y2 y3
      unfold wire_character.l1
      repeat' first
      | (with_reducible exact ih1 _ _ _ _)
      | (with_reducible exact LeO.refl _)
      | (with_reducible exact LeO.none _)
      | (with_reducible refine LeO.ite ?_ ?_)
theorem wire_character.mono : ∀ a0 a1 k, LeO (wire_character.f k a0 a1) (wire_character.f (k + 1) a0 a1) := by
  intro a0 a1 k
  exact (wire_character.mono_l k).1 _ _ _
theorem wire_index0 (w : World) : (Instr.index 117 (.agg RowCells) (.int .i64 0)).run Tryd.prog w = .ok (.agg #[.int .u8 (wlo 0), .int .u8 (whi 0), .int .u8 (wlo2 0), .int .u8 (whi2 0), .int .i64 (wmore 0)]) w := by kernel_rfl
theorem wire_index1 (w : World) : (Instr.index 117 (.agg RowCells) (.int .i64 1)).run Tryd.prog w = .ok (.agg #[.int .u8 (wlo 1), .int .u8 (whi 1), .int .u8 (wlo2 1), .int .u8 (whi2 1), .int .i64 (wmore 1)]) w := by kernel_rfl
theorem wire_index2 (w : World) : (Instr.index 117 (.agg RowCells) (.int .i64 2)).run Tryd.prog w = .ok (.agg #[.int .u8 (wlo 2), .int .u8 (whi 2), .int .u8 (wlo2 2), .int .u8 (whi2 2), .int .i64 (wmore 2)]) w := by kernel_rfl
theorem wire_index3 (w : World) : (Instr.index 117 (.agg RowCells) (.int .i64 3)).run Tryd.prog w = .ok (.agg #[.int .u8 (wlo 3), .int .u8 (whi 3), .int .u8 (wlo2 3), .int .u8 (whi2 3), .int .i64 (wmore 3)]) w := by kernel_rfl
theorem wire_index4 (w : World) : (Instr.index 117 (.agg RowCells) (.int .i64 4)).run Tryd.prog w = .ok (.agg #[.int .u8 (wlo 4), .int .u8 (whi 4), .int .u8 (wlo2 4), .int .u8 (whi2 4), .int .i64 (wmore 4)]) w := by kernel_rfl
theorem wire_index5 (w : World) : (Instr.index 117 (.agg RowCells) (.int .i64 5)).run Tryd.prog w = .ok (.agg #[.int .u8 (wlo 5), .int .u8 (whi 5), .int .u8 (wlo2 5), .int .u8 (whi2 5), .int .i64 (wmore 5)]) w := by kernel_rfl
theorem wire_index6 (w : World) : (Instr.index 117 (.agg RowCells) (.int .i64 6)).run Tryd.prog w = .ok (.agg #[.int .u8 (wlo 6), .int .u8 (whi 6), .int .u8 (wlo2 6), .int .u8 (whi2 6), .int .i64 (wmore 6)]) w := by kernel_rfl
theorem wire_index7 (w : World) : (Instr.index 117 (.agg RowCells) (.int .i64 7)).run Tryd.prog w = .ok (.agg #[.int .u8 (wlo 7), .int .u8 (whi 7), .int .u8 (wlo2 7), .int .u8 (whi2 7), .int .i64 (wmore 7)]) w := by kernel_rfl
theorem wire_index8 (w : World) : (Instr.index 117 (.agg RowCells) (.int .i64 8)).run Tryd.prog w = .ok (.agg #[.int .u8 (wlo 8), .int .u8 (whi 8), .int .u8 (wlo2 8), .int .u8 (whi2 8), .int .i64 (wmore 8)]) w := by kernel_rfl
/-- One row of the table, as the index gives it. -/
theorem wire_index (w : World) (i : Int) (h0 : 0 ≤ i) (h1 : i < 9) : (Instr.index 117 (.agg RowCells) (.int .i64 i)).run Tryd.prog w = .ok (.agg #[.int .u8 (wlo i), .int .u8 (whi i), .int .u8 (wlo2 i), .int .u8 (whi2 i), .int .i64 (wmore i)]) w := by
  rcases (show i = 0 ∨ i = 1 ∨ i = 2 ∨ i = 3 ∨ i = 4 ∨ i = 5 ∨ i = 6 ∨ i = 7 ∨ i = 8 by omega) with rfl | rfl | rfl | rfl | rfl | rfl | rfl | rfl | rfl
  · exact wire_index0 w
  · exact wire_index1 w
  · exact wire_index2 w
  · exact wire_index3 w
  · exact wire_index4 w
  · exact wire_index5 w
  · exact wire_index6 w
  · exact wire_index7 w
  · exact wire_index8 w
theorem wmore_range (i : Int) : 0 ≤ wmore i ∧ wmore i ≤ 3 := by
  unfold wmore wire_row
  rcases (show i.toNat = 0 ∨ i.toNat = 1 ∨ i.toNat = 2 ∨ i.toNat = 3 ∨ i.toNat = 4 ∨ i.toNat = 5 ∨ i.toNat = 6 ∨ i.toNat = 7 ∨ i.toNat = 8 ∨ 9 ≤ i.toNat by omega) with h | h | h | h | h | h | h | h | h | h
  all_goals first | (rw [h]; decide) | skip
  rw [List.getD_eq_getElem?_getD, List.getElem?_eq_none (by simpa [RowTab] using h)]
  decide
theorem w64ish (x : Int) (h0 : 0 ≤ x) (h1 : x < 9) : Aside0 (wrap64 (x + 1) = x + 1) := ⟨by unfold wrap64; omega⟩
set_option maxHeartbeats 4000000 in
set_option maxRecDepth 100000 in
theorem wire_character.calls (k : Nat) (a0 : ByteArray) (a1 : Int) (r : Int) (w : World) (h : wire_character.f k a0 a1 = some r) (hL : LaidW w) :
    Calls Tryd.prog 50 #[.string a0, .int .i64 a1] w fun e w' => e = .returned (.int .i64 r) ∧ Below w.heap.size w w' := by
  obtain ⟨⟨tg, fr, hg⟩, _⟩ := hL
  have HB := Aside0.mk (Below.refl w.heap.size w)
  have H' := Aside0.mk h
  clear h
  unfold wire_character.f at H'
  go_enter Tryd.func50, Tryd.ntmps50
  go_wp2_with (refine wpList_load_row rfl 117 _ rfl 0 rfl tg _ fr _ hg Tryd.underlying117 rfl (by kernel_rfl) ?_)
  clear hg
  go_loopg [11] k (fun kq v11 w' => ∃ x11 : Int, v11 = .int .i64 x11 ∧ Aside0 (0 ≤ x11) ∧ Aside0 (wire_character.l0 kq a0 a1 x11 = some r) ∧ Aside0 (Below w.heap.size w w'))
  case atStart => exact ⟨0, rfl, ⟨by omega⟩, H', HB⟩
  case round =>
    clear H' HB
    obtain ⟨x11, rfl, H0, HA, HB⟩ := hrel
    cases gk with
    | zero => exact absurd HA.out (by simp [wire_character.l0])
    | succ k1 =>
      have H := HA.out
      clear HA
      simp only [wire_character.l0] at H
      by_cases c1 : x11 < 9
      · rw [if_pos c1] at H
        have c1b : decide (x11 < 9) = true := decide_eq_true c1
        have hix := fun W => wire_index W x11 H0.out c1
        have hw := w64ish x11 H0.out c1
        rw [hw.out] at H
        clear c1
        by_cases c2 : 0 ≤ a1
        · rw [if_pos c2] at H
          have c2b : decide (0 ≤ a1) = true := decide_eq_true c2
          by_cases c3 : a1 < (a0.size : Int)
          · rw [if_pos c3] at H
            have c3b : decide (a1 < (a0.size : Int)) = true := decide_eq_true c3
            have hx := bt_at a0 a1
            have p4 := eq_true c2
            have q4 := eq_true c3
            have hm := wmore_range x11
            have hm1 := hm.1
            have hm2 := hm.2
            clear c3 c2 hm
            by_cases c4 : bt a0 a1 < wlo x11
            · rw [if_pos c4] at H
              have c4b : decide (bt a0 a1 < wlo x11) = true := decide_eq_true c4
              clear c4
              have H' := Aside0.mk H
              clear H
              go_wp2
              go_quiet (fail)
              go_wp2
              go_roundg k1
              case measure => omega
              case rel => exact ⟨x11 + 1, congrArg (Value.int .i64) hw.out, ⟨by have := H0.out; omega⟩, H', ⟨by repeat (first | (with_reducible first | exact HB.out | apply below_alloc | apply pw_below_drewN | apply below_drew1) | exact HB.out)⟩⟩
            · rw [if_neg c4] at H
              have c4b : decide (bt a0 a1 < wlo x11) = false := decide_eq_false c4
              clear c4
              by_cases c5 : bt a0 a1 > whi x11
              · rw [if_pos c5] at H
                have c5b : decide (whi x11 < bt a0 a1) = true := decide_eq_true c5
                clear c5
                have H' := Aside0.mk H
                clear H
                go_wp2
                go_quiet (fail)
                go_wp2
                go_roundg k1
                case measure => omega
                case rel => exact ⟨x11 + 1, congrArg (Value.int .i64) hw.out, ⟨by have := H0.out; omega⟩, H', ⟨by repeat (first | (with_reducible first | exact HB.out | apply below_alloc | apply pw_below_drewN | apply below_drew1) | exact HB.out)⟩⟩
              · rw [if_neg c5] at H
                have c5b : decide (whi x11 < bt a0 a1) = false := decide_eq_false c5
                clear c5
                by_cases c6 : wrap64 (a1 + wmore x11) ≥ (a0.size : Int)
                · rw [if_pos c6] at H
                  have c6b : decide ((a0.size : Int) ≤ wrap64 (a1 + wmore x11)) = true := decide_eq_true c6
                  clear c6
                  obtain rfl := Option.some.inj H
                  go_wp2
                  go_quiet (fail)
                  go_wp2
                  go_ret
                  exact ⟨rfl, by repeat (first | (with_reducible first | exact HB.out | apply below_alloc | apply pw_below_drewN | apply below_drew1) | exact HB.out)⟩
                · rw [if_neg c6] at H
                  have c6b : decide ((a0.size : Int) ≤ wrap64 (a1 + wmore x11)) = false := decide_eq_false c6
                  clear c6
                  have H' := Aside0.mk H
                  clear H
                  go_wp2
                  go_quiet (fail)
                  go_wp2
                  obtain ⟨wo, rfl⟩ : ∃ wo : World, wo = wr := ⟨_, rfl⟩
                  go_loopg [7, 8, 9] k1 (fun kq v7 _ _ w' => ∃ x7 : Int, v7 = .int .i64 x7 ∧ Aside0 (1 ≤ x7) ∧ Aside0 (wire_character.l1 kq a0 a1 x11 x7 = some r) ∧ ∃ n : Nat, w' = (wo.alloc (.cells #[.int .u8 (wlo x11), .int .u8 (whi x11), .int .u8 (wlo2 x11), .int .u8 (whi2 x11), .int .i64 (wmore x11)] 116)).drewN n)
                  case atStart => exact ⟨1, rfl, ⟨by omega⟩, H', _, rfl⟩
                  case round =>
                    clear H' c2b c3b c4b c5b c6b hx p4 q4
                    obtain ⟨x7, rfl, H1, HA, nw, rfl⟩ := hrel
                    have H := HA.out
                    clear HA
                    cases gk with
                    | zero => simp [wire_character.l1] at H
                    | succ k2 =>
                    simp only [wire_character.l1] at H
                    by_cases d1 : x7 ≤ wmore x11
                    · rw [if_pos d1] at H
                      have d1b : decide (x7 ≤ wmore x11) = true := decide_eq_true d1
                      have hw7 : Aside0 (wrap64 (x7 + 1) = x7 + 1) := ⟨by have := H1.out; unfold wrap64; omega⟩
                      rw [hw7.out] at H
                      clear d1
                      by_cases d2 : 0 ≤ wrap64 (a1 + x7)
                      · rw [if_pos d2] at H
                        by_cases d3 : wrap64 (a1 + x7) < (a0.size : Int)
                        · rw [if_pos d3] at H
                          have hx := bt_at a0 (wrap64 (a1 + x7))
                          have p4 := eq_true d2
                          have q4 := eq_true d3
                          clear d2 d3
                          by_cases d4 : x7 = 1
                          · rw [if_pos d4, if_pos d4] at H
                            have d4b : (x7 == 1) = true := beq_iff_eq.mpr d4
                            clear d4
                            by_cases d5 : bt a0 (wrap64 (a1 + x7)) < wlo2 x11
                            · rw [if_pos d5] at H
                              have d5b : decide (bt a0 (wrap64 (a1 + x7)) < wlo2 x11) = true := decide_eq_true d5
                              clear d5
                              obtain rfl := Option.some.inj H
                              go_wp2
                              go_quiet (fail)
                              go_wp2
                              go_ret
                              exact ⟨rfl, by repeat (first | (with_reducible first | exact HB.out | apply below_alloc | apply pw_below_drewN | apply below_drew1) | exact HB.out)⟩
                            · rw [if_neg d5] at H
                              have d5b : decide (bt a0 (wrap64 (a1 + x7)) < wlo2 x11) = false := decide_eq_false d5
                              clear d5
                              by_cases d6 : bt a0 (wrap64 (a1 + x7)) > whi2 x11
                              · rw [if_pos d6] at H
                                have d6b : decide (whi2 x11 < bt a0 (wrap64 (a1 + x7))) = true := decide_eq_true d6
                                clear d6
                                obtain rfl := Option.some.inj H
                                go_wp2
                                go_quiet (fail)
                                go_wp2
                                go_ret
                                exact ⟨rfl, by repeat (first | (with_reducible first | exact HB.out | apply below_alloc | apply pw_below_drewN | apply below_drew1) | exact HB.out)⟩
                              · rw [if_neg d6] at H
                                have d6b : decide (whi2 x11 < bt a0 (wrap64 (a1 + x7))) = false := decide_eq_false d6
                                clear d6
                                have H' := Aside0.mk H
                                clear H
                                go_wp2
                                go_quiet (fail)
                                go_wp2
                                go_roundg k2
                                case measure => omega
                                case rel => exact ⟨x7 + 1, congrArg (Value.int .i64) hw7.out, ⟨by have := H1.out; omega⟩, H', _, rfl⟩
                          · rw [if_neg d4, if_neg d4] at H
                            have d4b : (x7 == 1) = false := beq_eq_false_iff_ne.mpr d4
                            clear d4
                            by_cases d5 : bt a0 (wrap64 (a1 + x7)) < 128
                            · rw [if_pos d5] at H
                              have d5b : decide (bt a0 (wrap64 (a1 + x7)) < 128) = true := decide_eq_true d5
                              clear d5
                              obtain rfl := Option.some.inj H
                              go_wp2
                              go_ret
                              exact ⟨rfl, by repeat (first | (with_reducible first | exact HB.out | apply below_alloc | apply pw_below_drewN | apply below_drew1) | exact HB.out)⟩
                            · rw [if_neg d5] at H
                              have d5b : decide (bt a0 (wrap64 (a1 + x7)) < 128) = false := decide_eq_false d5
                              clear d5
                              by_cases d6 : bt a0 (wrap64 (a1 + x7)) > 191
                              · rw [if_pos d6] at H
                                have d6b : decide (191 < bt a0 (wrap64 (a1 + x7))) = true := decide_eq_true d6
                                clear d6
                                obtain rfl := Option.some.inj H
                                go_wp2
                                go_ret
                                exact ⟨rfl, by repeat (first | (with_reducible first | exact HB.out | apply below_alloc | apply pw_below_drewN | apply below_drew1) | exact HB.out)⟩
                              · rw [if_neg d6] at H
                                have d6b : decide (191 < bt a0 (wrap64 (a1 + x7))) = false := decide_eq_false d6
                                clear d6
                                have H' := Aside0.mk H
                                clear H
                                go_wp2
                                go_roundg k2
                                case measure => omega
                                case rel => exact ⟨x7 + 1, congrArg (Value.int .i64) hw7.out, ⟨by have := H1.out; omega⟩, H', _, rfl⟩
                        · rw [if_neg d3] at H
                          cases H
                      · rw [if_neg d2] at H
                        cases H
                    · rw [if_neg d1] at H
                      have d1b : decide (x7 ≤ wmore x11) = false := decide_eq_false d1
                      clear d1
                      obtain rfl := Option.some.inj H
                      go_wp2
                      go_ret
                      exact ⟨rfl, by repeat (first | (with_reducible first | exact HB.out | apply below_alloc | apply pw_below_drewN | apply below_drew1) | exact HB.out)⟩
          · rw [if_neg c3] at H
            cases H
        · rw [if_neg c2] at H
          cases H
      · rw [if_neg c1] at H
        have c1b : decide (x11 < 9) = false := decide_eq_false c1
        clear c1
        obtain rfl := Option.some.inj H
        go_wp2
        go_ret
        exact ⟨rfl, by repeat (first | (with_reducible first | exact HB.out | apply below_alloc | apply pw_below_drewN | apply below_drew1) | exact HB.out)⟩

/-! ### wire_Utf8: function 29 -/
def wire_Utf8.l0 : Nat → ByteArray → Int → Option (Int)
  | 0, _, _ => none
  | k + 1, x0, x3 => if x3 < (x0.size : Int) then ((wire_character.f k x0 x3).bind fun t101 => (if t101 = 0 then (some x3) else (wire_Utf8.l0 k x0 (wrap64 (x3 + t101))))) else (some (-1))
def wire_Utf8.f (k : Nat) (a0 : ByteArray) : Option (Int) := wire_Utf8.l0 k a0 0
theorem wire_Utf8.mono_l : ∀ k, (∀ y0 y1, LeO (wire_Utf8.l0 k y0 y1) (wire_Utf8.l0 (k + 1) y0 y1))
  | 0 => fun _ _ r h => by simp [wire_Utf8.l0] at h
  | k + 1 => by
    have ih0 := wire_Utf8.mono_l k
    · intro y0 y1
      unfold wire_Utf8.l0
      repeat' first
      | (with_reducible exact ih0 _ _)
      | (with_reducible exact wire_character.mono _ _ _)
      | (with_reducible exact LeO.refl _)
      | (with_reducible exact LeO.none _)
      | (with_reducible refine LeO.ite ?_ ?_)
      | (with_reducible refine LeO.bind ?_ (fun _ => ?_))
      | exact ih0 _ _
      | exact wire_character.mono _ _ _
      | exact LeO.none _
      | refine LeO.ite ?_ ?_
      | refine LeO.bind ?_ (fun _ => ?_)
theorem wire_Utf8.mono : ∀ a0 k, LeO (wire_Utf8.f k a0) (wire_Utf8.f (k + 1) a0) := by
  intro a0 k
  have ih0 := wire_Utf8.mono_l k
  unfold wire_Utf8.f
  repeat' first
      | (with_reducible exact ih0 _ _)
      | (with_reducible exact wire_character.mono _ _ _)
      | (with_reducible exact LeO.refl _)
      | (with_reducible exact LeO.none _)
      | (with_reducible refine LeO.ite ?_ ?_)
      | (with_reducible refine LeO.bind ?_ (fun _ => ?_))
      | exact ih0 _ _
      | exact wire_character.mono _ _ _
      | exact LeO.none _
      | refine LeO.ite ?_ ?_
      | refine LeO.bind ?_ (fun _ => ?_)
set_option maxHeartbeats 8000000 in
set_option maxRecDepth 100000 in
theorem wire_Utf8.calls (k : Nat) (a0 : ByteArray) (r : Int) (w : World) (h : wire_Utf8.f k a0 = some r) (hL : LaidW w) :
    Calls Tryd.prog 29 #[.string a0] w fun e w' => e = .returned (.int .i64 r) ∧ Below w.heap.size w w' := by
  have HL := Aside0.mk hL
  clear hL
  have HB := Aside0.mk (Below.refl w.heap.size w)
  have H : (wire_Utf8.l0 k a0 0) = some r := h
  clear h
  have H' := Aside0.mk H
  clear H
  go_enter Tryd.func29, Tryd.ntmps29
  go_wp2
  go_loopg [3] k (fun kq v3 w' => ∃ (x3_1 : Int), v3 = .int .i64 x3_1 ∧ Aside0 (wire_Utf8.l0 kq a0 x3_1 = some r) ∧ Aside0 (kq ≤ k) ∧ Aside0 (Below w.heap.size w w'))
  case atStart => exact ⟨(0), (by first | rfl | (simp; done) | (simp [*]; done)), H', ⟨Nat.le_refl _⟩, ⟨by repeat (first | (with_reducible first | exact HB.out | apply below_alloc | apply pw_below_drewN | apply below_drew1) | exact HB.out)⟩⟩
  case round =>
    clear H'
    obtain ⟨x3_1, rfl, HA, HK1, HB⟩ := hrel
    cases gk with
    | zero => exact absurd HA.out (by simp [wire_Utf8.l0])
    | succ k1 =>
      have H := HA.out
      clear HA
      simp only [wire_Utf8.l0] at H
      by_cases c2 : x3_1 < (a0.size : Int)
      · rw [if_pos c2] at H
        have c2b0 : decide (x3_1 < (a0.size : Int)) = true := decide_eq_true c2
        clear c2
        replace H := Option.bind_eq_some_iff.mp H
        obtain ⟨t101, A30, H⟩ := H
        replace H : (if t101 = 0 then (some x3_1) else (wire_Utf8.l0 k1 a0 (wrap64 (x3_1 + t101)))) = some r := H
        have A3 := Aside0.mk A30
        clear A30
        by_cases c4 : t101 = 0
        · rw [if_pos c4] at H
          have c4b0 : (t101 == 0) = true := beq_iff_eq.mpr c4
          have c4b1 : (t101 != 0) = false := bne_eq_false_iff_eq.mpr c4
          clear c4
          obtain rfl := Option.some.inj H
          go_wp2_with (first | ((with_reducible refine gate_callee (f := 50) rfl ?_); refine goesL_ (some 11) rfl rfl Tryd.func50 (by kernel_rfl) rfl #[.string a0, .int .i64 x3_1] rfl (by (try simp only [List.map_toArray, List.map_cons, List.map_nil]); first | done | rfl | (simp only [List.length_drop, List.length_take]; rfl)) ?_; (with_reducible refine (wire_character.calls k1 a0 x3_1 t101 _ A3.out (LaidW.below HL.out (by repeat (first | (with_reducible first | exact HB.out | apply below_alloc | apply pw_below_drewN | apply below_drew1) | exact HB.out | exact Below.refl _ _)))).mono ?_); rintro e w5 ⟨rfl, hb⟩; refine ⟨_, rfl, ?_⟩; have n0_ := Aside0.mk (below_step (by repeat (first | (with_reducible first | exact HB.out | apply below_alloc | apply pw_below_drewN | apply below_drew1) | exact HB.out)) hb); clear HB; have HB := n0_; clear n0_; (try clear hb); (try clear hb2); (try clear hk); (try clear hi)))
          go_ret
          exact ⟨by first | rfl | (simp [errW_none, errW_some] <;> rfl) | (simp [*, errW_none, errW_some] <;> rfl), by repeat (first | (with_reducible first | exact HB.out | apply below_alloc | apply pw_below_drewN | apply below_drew1) | exact HB.out)⟩
        · rw [if_neg c4] at H
          have c4b0 : (t101 == 0) = false := beq_eq_false_iff_ne.mpr c4
          have c4b1 : (t101 != 0) = true := bne_iff_ne.mpr c4
          have H' := Aside0.mk H
          clear H
          go_wp2_with (first | ((with_reducible refine gate_callee (f := 50) rfl ?_); refine goesL_ (some 11) rfl rfl Tryd.func50 (by kernel_rfl) rfl #[.string a0, .int .i64 x3_1] rfl (by (try simp only [List.map_toArray, List.map_cons, List.map_nil]); first | done | rfl | (simp only [List.length_drop, List.length_take]; rfl)) ?_; (with_reducible refine (wire_character.calls k1 a0 x3_1 t101 _ A3.out (LaidW.below HL.out (by repeat (first | (with_reducible first | exact HB.out | apply below_alloc | apply pw_below_drewN | apply below_drew1) | exact HB.out | exact Below.refl _ _)))).mono ?_); rintro e w6 ⟨rfl, hb⟩; refine ⟨_, rfl, ?_⟩; have n0_ := Aside0.mk (below_step (by repeat (first | (with_reducible first | exact HB.out | apply below_alloc | apply pw_below_drewN | apply below_drew1) | exact HB.out)) hb); clear HB; have HB := n0_; clear n0_; (try clear hb); (try clear hb2); (try clear hk); (try clear hi)))
          go_roundg k1
          case measure => have := HK1.out; omega
          case rel => exact ⟨(wrap64 (x3_1 + t101)), (by first | rfl | (simp; done) | (simp [*]; done)), H', ⟨by have := HK1.out; omega⟩, ⟨by repeat (first | (with_reducible first | exact HB.out | apply below_alloc | apply pw_below_drewN | apply below_drew1) | exact HB.out)⟩⟩
      · rw [if_neg c2] at H
        have c2b0 : decide (x3_1 < (a0.size : Int)) = false := decide_eq_false c2
        clear c2
        obtain rfl := Option.some.inj H
        go_wp2
        go_ret
        exact ⟨by first | rfl | (simp [errW_none, errW_some] <;> rfl) | (simp [*, errW_none, errW_some] <;> rfl), by repeat (first | (with_reducible first | exact HB.out | apply below_alloc | apply pw_below_drewN | apply below_drew1) | exact HB.out)⟩

/-! ### strings_IndexByte: function 65 -/
def strings_IndexByte.f (a0 : ByteArray) (a1 : Int) : Option (Int) := some (Lib.indexByte a0.data.toList a1.toNat.toUInt8)
theorem strings_IndexByte.calls (a0 : ByteArray) (a1 : Int) (r : Int) (w : World) (h : strings_IndexByte.f a0 a1 = some r) :
    Calls Tryd.prog 65 #[.string a0, .int .u8 a1] w fun e w' => e = .returned (.int .i64 r) ∧ Drawn0 w w' := by
  obtain rfl := Option.some.inj h
  exact (Tryd.strings_IndexByte a0 a1 w).mono fun e w' ⟨h1, h2⟩ => ⟨h1, h2 ▸ Drawn0.refl _⟩

/-! ### scan_class: function 45 -/
mutual
def scan_class.j0 : Nat → Int → Bool → Option (Int)
  | 0, _, _ => none
  | k + 1, x0, x3 => if x3 = true then (some 1) else (if x0 = 95 then (scan_class.j1 k x0 true) else (if x0 ≥ 97 then (if x0 ≤ 122 then (scan_class.j1 k x0 true) else (if x0 ≥ 65 then (scan_class.j1 k x0 (decide (x0 ≤ 90))) else (scan_class.j1 k x0 false))) else (if x0 ≥ 65 then (scan_class.j1 k x0 (decide (x0 ≤ 90))) else (scan_class.j1 k x0 false))))
def scan_class.j1 : Nat → Int → Bool → Option (Int)
  | 0, _, _ => none
  | k + 1, x0, x14 => if x14 = true then (some 2) else (if x0 ≥ 48 then (scan_class.j2 k x0 (decide (x0 ≤ 57))) else (scan_class.j2 k x0 false))
def scan_class.j2 : Nat → Int → Bool → Option (Int)
  | 0, _, _ => none
  | k + 1, x0, x33 => if x33 = true then (some 3) else (if x0 = 39 then (scan_class.j3 k x0 true) else (scan_class.j3 k x0 (x0 == 34)))
def scan_class.j3 : Nat → Int → Bool → Option (Int)
  | 0, _, _ => none
  | k + 1, x0, x40 => if x40 = true then (some 4) else (if x0 = 47 then (some 6) else ((strings_IndexByte.f (⟨#[123, 125, 91, 93, 40, 41, 60, 62, 59, 44, 61, 46, 45]⟩ : ByteArray) x0).bind fun t102 => (if t102 ≥ 0 then (some 5) else (some 0))))
end
def scan_class.f (k : Nat) (a0 : Int) : Option (Int) := if a0 ≥ 9 then (if a0 ≤ 13 then (scan_class.j0 k a0 true) else (scan_class.j0 k a0 (a0 == 32))) else (scan_class.j0 k a0 (a0 == 32))
theorem scan_class.mono_l : ∀ k, (∀ y0 y1, LeO (scan_class.j0 k y0 y1) (scan_class.j0 (k + 1) y0 y1)) ∧ (∀ y0 y1, LeO (scan_class.j1 k y0 y1) (scan_class.j1 (k + 1) y0 y1)) ∧ (∀ y0 y1, LeO (scan_class.j2 k y0 y1) (scan_class.j2 (k + 1) y0 y1)) ∧ (∀ y0 y1, LeO (scan_class.j3 k y0 y1) (scan_class.j3 (k + 1) y0 y1))
  | 0 => ⟨fun _ _ r h => by simp [scan_class.j0] at h, fun _ _ r h => by simp [scan_class.j1] at h, fun _ _ r h => by simp [scan_class.j2] at h, fun _ _ r h => by simp [scan_class.j3] at h⟩
  | k + 1 => by
    obtain ⟨ih0, ih1, ih2, ih3⟩ := scan_class.mono_l k
    refine ⟨?_, ?_, ?_, ?_⟩
    · intro y0 y1
      unfold scan_class.j0
      repeat' first
      | (with_reducible exact ih0 _ _)
      | (with_reducible exact ih1 _ _)
      | (with_reducible exact ih2 _ _)
      | (with_reducible exact ih3 _ _)
      | (with_reducible exact LeO.refl _)
      | (with_reducible exact LeO.none _)
      | (with_reducible refine LeO.ite ?_ ?_)
      | (with_reducible refine LeO.bind ?_ (fun _ => ?_))
      | exact ih0 _ _
      | exact ih1 _ _
      | exact ih2 _ _
      | exact ih3 _ _
      | exact LeO.none _
      | refine LeO.ite ?_ ?_
      | refine LeO.bind ?_ (fun _ => ?_)
    · intro y0 y1
      unfold scan_class.j1
      repeat' first
      | (with_reducible exact ih0 _ _)
      | (with_reducible exact ih1 _ _)
      | (with_reducible exact ih2 _ _)
      | (with_reducible exact ih3 _ _)
      | (with_reducible exact LeO.refl _)
      | (with_reducible exact LeO.none _)
      | (with_reducible refine LeO.ite ?_ ?_)
      | (with_reducible refine LeO.bind ?_ (fun _ => ?_))
      | exact ih0 _ _
      | exact ih1 _ _
      | exact ih2 _ _
      | exact ih3 _ _
      | exact LeO.none _
      | refine LeO.ite ?_ ?_
      | refine LeO.bind ?_ (fun _ => ?_)
    · intro y0 y1
      unfold scan_class.j2
      repeat' first
      | (with_reducible exact ih0 _ _)
      | (with_reducible exact ih1 _ _)
      | (with_reducible exact ih2 _ _)
      | (with_reducible exact ih3 _ _)
      | (with_reducible exact LeO.refl _)
      | (with_reducible exact LeO.none _)
      | (with_reducible refine LeO.ite ?_ ?_)
      | (with_reducible refine LeO.bind ?_ (fun _ => ?_))
      | exact ih0 _ _
      | exact ih1 _ _
      | exact ih2 _ _
      | exact ih3 _ _
      | exact LeO.none _
      | refine LeO.ite ?_ ?_
      | refine LeO.bind ?_ (fun _ => ?_)
    · intro y0 y1
      unfold scan_class.j3
      repeat' first
      | (with_reducible exact ih0 _ _)
      | (with_reducible exact ih1 _ _)
      | (with_reducible exact ih2 _ _)
      | (with_reducible exact ih3 _ _)
      | (with_reducible exact LeO.refl _)
      | (with_reducible exact LeO.none _)
      | (with_reducible refine LeO.ite ?_ ?_)
      | (with_reducible refine LeO.bind ?_ (fun _ => ?_))
      | exact ih0 _ _
      | exact ih1 _ _
      | exact ih2 _ _
      | exact ih3 _ _
      | exact LeO.none _
      | refine LeO.ite ?_ ?_
      | refine LeO.bind ?_ (fun _ => ?_)
theorem scan_class.mono : ∀ a0 k, LeO (scan_class.f k a0) (scan_class.f (k + 1) a0) := by
  intro a0 k
  obtain ⟨ih0, ih1, ih2, ih3⟩ := scan_class.mono_l k
  unfold scan_class.f
  repeat' first
      | (with_reducible exact ih0 _ _)
      | (with_reducible exact ih1 _ _)
      | (with_reducible exact ih2 _ _)
      | (with_reducible exact ih3 _ _)
      | (with_reducible exact LeO.refl _)
      | (with_reducible exact LeO.none _)
      | (with_reducible refine LeO.ite ?_ ?_)
      | (with_reducible refine LeO.bind ?_ (fun _ => ?_))
      | exact ih0 _ _
      | exact ih1 _ _
      | exact ih2 _ _
      | exact ih3 _ _
      | exact LeO.none _
      | refine LeO.ite ?_ ?_
      | refine LeO.bind ?_ (fun _ => ?_)
set_option maxHeartbeats 8000000 in
set_option maxRecDepth 100000 in
theorem scan_class.calls (k : Nat) (a0 : Int) (r : Int) (w : World) (h : scan_class.f k a0 = some r) :
    Calls Tryd.prog 45 #[.int .u8 a0] w fun e w' => e = .returned (.int .i64 r) ∧ Drawn0 w w' := by
  have H : (if a0 ≥ 9 then (if a0 ≤ 13 then (scan_class.j0 k a0 true) else (scan_class.j0 k a0 (a0 == 32))) else (scan_class.j0 k a0 (a0 == 32))) = some r := h
  clear h
  have HC2 := Aside0.mk H
  clear H
  go_enter Tryd.func45, Tryd.ntmps45
  go_upto_region 1 with (fail)
  go_cut [3] (fun v3 wc => ∃ (kq : Nat) (x3_1 : Bool), v3 = .bool x3_1 ∧ Aside0 (scan_class.j0 kq a0 x3_1 = some r) ∧ Aside0 (kq ≤ k) ∧ Drawn0 w wc)
  case first =>
    have H := HC2.out
    clear HC2
    by_cases c3 : a0 ≥ 9
    · rw [if_pos c3] at H
      have c3b0 : decide (9 ≤ a0) = true := decide_eq_true c3
      clear c3
      (first | rw [c3b0] | (simp only [i64_w, i32_w]; rw [c3b0]) | skip)
      by_cases c4 : a0 ≤ 13
      · rw [if_pos c4] at H
        have c4b0 : decide (a0 ≤ 13) = true := decide_eq_true c4
        clear c4
        have H' := Aside0.mk H
        clear H
        go_wp2
        go_meet
        case rel => exact ⟨_, (true), (by first | rfl | (simp; done) | (simp [*]; done)), H', ⟨by first | omega | exact Nat.le_refl _⟩, by repeat (first | exact Drawn0.refl _ | apply Drawn0.step)⟩
      · rw [if_neg c4] at H
        have c4b0 : decide (a0 ≤ 13) = false := decide_eq_false c4
        clear c4
        have H' := Aside0.mk H
        clear H
        go_wp2
        go_meet
        case rel => exact ⟨_, ((a0 == 32)), (by first | rfl | (simp; done) | (simp [*]; done)), H', ⟨by first | omega | exact Nat.le_refl _⟩, by repeat (first | exact Drawn0.refl _ | apply Drawn0.step)⟩
    · rw [if_neg c3] at H
      have c3b0 : decide (9 ≤ a0) = false := decide_eq_false c3
      clear c3
      (first | rw [c3b0] | (simp only [i64_w, i32_w]; rw [c3b0]) | skip)
      have H' := Aside0.mk H
      clear H
      go_wp2
      go_meet
      case rel => exact ⟨_, ((a0 == 32)), (by first | rfl | (simp; done) | (simp [*]; done)), H', ⟨by first | omega | exact Nat.le_refl _⟩, by repeat (first | exact Drawn0.refl _ | apply Drawn0.step)⟩
  case rest =>
    clear HC2
    try clear p2
    try clear c3
    try clear c3b0
    try clear c4
    try clear c4b0
    obtain ⟨kq, x3_1, rfl, HA, HJ1, ⟨mc1, rfl⟩⟩ := hcut
    cases kq with
    | zero => exact absurd HA.out (by simp [scan_class.j0])
    | succ kj1 =>
      have H := HA.out
      clear HA
      simp only [scan_class.j0] at H
      by_cases c5 : x3_1 = true
      · subst c5
        have H1 : (some 1) = some r := by rw [if_pos rfl] at H; exact H
        clear H
        have H := H1
        clear H1
        obtain rfl := Option.some.inj H
        go_wp2
        go_ret
        exact ⟨by first | rfl | (simp; done) | (simp [*]; done), by repeat (first | exact Drawn0.refl _ | apply Drawn0.step)⟩
      · replace c5 := Bool.eq_false_iff.mpr c5
        subst c5
        have H1 : (if a0 = 95 then (scan_class.j1 kj1 a0 true) else (if a0 ≥ 97 then (if a0 ≤ 122 then (scan_class.j1 kj1 a0 true) else (if a0 ≥ 65 then (scan_class.j1 kj1 a0 (decide (a0 ≤ 90))) else (scan_class.j1 kj1 a0 false))) else (if a0 ≥ 65 then (scan_class.j1 kj1 a0 (decide (a0 ≤ 90))) else (scan_class.j1 kj1 a0 false)))) = some r := by rw [if_neg (show ¬ (false = true) by decide)] at H; exact H
        clear H
        have H := H1
        clear H1
        have HC6 := Aside0.mk H
        clear H
        go_upto_region 3 with (fail)
        go_cut [14] (fun v14 wc => ∃ (kq : Nat) (x14_5 : Bool), v14 = .bool x14_5 ∧ Aside0 (scan_class.j1 kq a0 x14_5 = some r) ∧ Aside0 (kq ≤ kj1) ∧ Drawn0 w wc)
        case first =>
          have H := HC6.out
          clear HC6
          by_cases c7 : a0 = 95
          · rw [if_pos c7] at H
            have c7b0 : (a0 == 95) = true := beq_iff_eq.mpr c7
            have c7b1 : (a0 != 95) = false := bne_eq_false_iff_eq.mpr c7
            clear c7
            (first | rw [c7b0] | (simp only [i64_w, i32_w]; rw [c7b0]) | skip)
            have H' := Aside0.mk H
            clear H
            go_wp2
            go_meet
            case rel => exact ⟨_, (true), (by first | rfl | (simp; done) | (simp [*]; done)), H', ⟨by have := HJ1.out; first | omega | exact Nat.le_refl _⟩, by repeat (first | exact Drawn0.refl _ | apply Drawn0.step)⟩
          · rw [if_neg c7] at H
            have c7b0 : (a0 == 95) = false := beq_eq_false_iff_ne.mpr c7
            have c7b1 : (a0 != 95) = true := bne_iff_ne.mpr c7
            (first | rw [c7b0] | (simp only [i64_w, i32_w]; rw [c7b0]) | skip)
            by_cases c8 : a0 ≥ 97
            · rw [if_pos c8] at H
              have c8b0 : decide (97 ≤ a0) = true := decide_eq_true c8
              clear c8
              by_cases c9 : a0 ≤ 122
              · rw [if_pos c9] at H
                have c9b0 : decide (a0 ≤ 122) = true := decide_eq_true c9
                clear c9
                have H' := Aside0.mk H
                clear H
                go_wp2
                go_meet
                case rel => exact ⟨_, (true), (by first | rfl | (simp; done) | (simp [*]; done)), H', ⟨by have := HJ1.out; first | omega | exact Nat.le_refl _⟩, by repeat (first | exact Drawn0.refl _ | apply Drawn0.step)⟩
              · rw [if_neg c9] at H
                have c9b0 : decide (a0 ≤ 122) = false := decide_eq_false c9
                clear c9
                by_cases c10 : a0 ≥ 65
                · rw [if_pos c10] at H
                  have c10b0 : decide (65 ≤ a0) = true := decide_eq_true c10
                  clear c10
                  have H' := Aside0.mk H
                  clear H
                  go_wp2
                  go_meet
                  case rel => exact ⟨_, (decide (a0 ≤ 90)), (by first | rfl | (simp; done) | (simp [*]; done)), H', ⟨by have := HJ1.out; first | omega | exact Nat.le_refl _⟩, by repeat (first | exact Drawn0.refl _ | apply Drawn0.step)⟩
                · rw [if_neg c10] at H
                  have c10b0 : decide (65 ≤ a0) = false := decide_eq_false c10
                  clear c10
                  have H' := Aside0.mk H
                  clear H
                  go_wp2
                  go_meet
                  case rel => exact ⟨_, (false), (by first | rfl | (simp; done) | (simp [*]; done)), H', ⟨by have := HJ1.out; first | omega | exact Nat.le_refl _⟩, by repeat (first | exact Drawn0.refl _ | apply Drawn0.step)⟩
            · rw [if_neg c8] at H
              have c8b0 : decide (97 ≤ a0) = false := decide_eq_false c8
              clear c8
              by_cases c11 : a0 ≥ 65
              · rw [if_pos c11] at H
                have c11b0 : decide (65 ≤ a0) = true := decide_eq_true c11
                clear c11
                have H' := Aside0.mk H
                clear H
                go_wp2
                go_meet
                case rel => exact ⟨_, (decide (a0 ≤ 90)), (by first | rfl | (simp; done) | (simp [*]; done)), H', ⟨by have := HJ1.out; first | omega | exact Nat.le_refl _⟩, by repeat (first | exact Drawn0.refl _ | apply Drawn0.step)⟩
              · rw [if_neg c11] at H
                have c11b0 : decide (65 ≤ a0) = false := decide_eq_false c11
                clear c11
                have H' := Aside0.mk H
                clear H
                go_wp2
                go_meet
                case rel => exact ⟨_, (false), (by first | rfl | (simp; done) | (simp [*]; done)), H', ⟨by have := HJ1.out; first | omega | exact Nat.le_refl _⟩, by repeat (first | exact Drawn0.refl _ | apply Drawn0.step)⟩
        case rest =>
          clear HC6
          try clear c1
          try clear p2
          try clear c3
          try clear c3b0
          try clear c4
          try clear c4b0
          try clear c5
          try clear c7
          try clear c7b0
          try clear c7b1
          try clear c8
          try clear c8b0
          try clear c9
          try clear c9b0
          try clear c10
          try clear c10b0
          try clear c11
          try clear c11b0
          try clear p2
          obtain ⟨kq, x14_5, rfl, HA, HJ5, ⟨mc5, rfl⟩⟩ := hcut
          cases kq with
          | zero => exact absurd HA.out (by simp [scan_class.j1])
          | succ kj5 =>
            have H := HA.out
            clear HA
            simp only [scan_class.j1] at H
            by_cases c12 : x14_5 = true
            · subst c12
              have H1 : (some 2) = some r := by rw [if_pos rfl] at H; exact H
              clear H
              have H := H1
              clear H1
              obtain rfl := Option.some.inj H
              go_wp2
              go_ret
              exact ⟨by first | rfl | (simp; done) | (simp [*]; done), by repeat (first | exact Drawn0.refl _ | apply Drawn0.step)⟩
            · replace c12 := Bool.eq_false_iff.mpr c12
              subst c12
              have H1 : (if a0 ≥ 48 then (scan_class.j2 kj5 a0 (decide (a0 ≤ 57))) else (scan_class.j2 kj5 a0 false)) = some r := by rw [if_neg (show ¬ (false = true) by decide)] at H; exact H
              clear H
              have H := H1
              clear H1
              have HC13 := Aside0.mk H
              clear H
              go_upto_region 5 with (fail)
              go_cut [33] (fun v33 wc => ∃ (kq : Nat) (x33_12 : Bool), v33 = .bool x33_12 ∧ Aside0 (scan_class.j2 kq a0 x33_12 = some r) ∧ Aside0 (kq ≤ kj5) ∧ Drawn0 w wc)
              case first =>
                have H := HC13.out
                clear HC13
                by_cases c14 : a0 ≥ 48
                · rw [if_pos c14] at H
                  have c14b0 : decide (48 ≤ a0) = true := decide_eq_true c14
                  clear c14
                  (first | rw [c14b0] | (simp only [i64_w, i32_w]; rw [c14b0]) | skip)
                  have H' := Aside0.mk H
                  clear H
                  go_wp2
                  go_meet
                  case rel => exact ⟨_, (decide (a0 ≤ 57)), (by first | rfl | (simp; done) | (simp [*]; done)), H', ⟨by have := HJ1.out; have := HJ5.out; first | omega | exact Nat.le_refl _⟩, by repeat (first | exact Drawn0.refl _ | apply Drawn0.step)⟩
                · rw [if_neg c14] at H
                  have c14b0 : decide (48 ≤ a0) = false := decide_eq_false c14
                  clear c14
                  (first | rw [c14b0] | (simp only [i64_w, i32_w]; rw [c14b0]) | skip)
                  have H' := Aside0.mk H
                  clear H
                  go_wp2
                  go_meet
                  case rel => exact ⟨_, (false), (by first | rfl | (simp; done) | (simp [*]; done)), H', ⟨by have := HJ1.out; have := HJ5.out; first | omega | exact Nat.le_refl _⟩, by repeat (first | exact Drawn0.refl _ | apply Drawn0.step)⟩
              case rest =>
                clear HC13
                try clear c1
                try clear p2
                try clear c3
                try clear c3b0
                try clear c4
                try clear c4b0
                try clear c5
                try clear c7
                try clear c7b0
                try clear c7b1
                try clear c8
                try clear c8b0
                try clear c9
                try clear c9b0
                try clear c10
                try clear c10b0
                try clear c11
                try clear c11b0
                try clear c12
                try clear c14
                try clear c14b0
                try clear p2
                obtain ⟨kq, x33_12, rfl, HA, HJ12, ⟨mc12, rfl⟩⟩ := hcut
                cases kq with
                | zero => exact absurd HA.out (by simp [scan_class.j2])
                | succ kj12 =>
                  have H := HA.out
                  clear HA
                  simp only [scan_class.j2] at H
                  by_cases c15 : x33_12 = true
                  · subst c15
                    have H1 : (some 3) = some r := by rw [if_pos rfl] at H; exact H
                    clear H
                    have H := H1
                    clear H1
                    obtain rfl := Option.some.inj H
                    go_wp2
                    go_ret
                    exact ⟨by first | rfl | (simp; done) | (simp [*]; done), by repeat (first | exact Drawn0.refl _ | apply Drawn0.step)⟩
                  · replace c15 := Bool.eq_false_iff.mpr c15
                    subst c15
                    have H1 : (if a0 = 39 then (scan_class.j3 kj12 a0 true) else (scan_class.j3 kj12 a0 (a0 == 34))) = some r := by rw [if_neg (show ¬ (false = true) by decide)] at H; exact H
                    clear H
                    have H := H1
                    clear H1
                    have HC16 := Aside0.mk H
                    clear H
                    go_upto_region 7 with (fail)
                    go_cut [40] (fun v40 wc => ∃ (kq : Nat) (x40_15 : Bool), v40 = .bool x40_15 ∧ Aside0 (scan_class.j3 kq a0 x40_15 = some r) ∧ Aside0 (kq ≤ kj12) ∧ Drawn0 w wc)
                    case first =>
                      have H := HC16.out
                      clear HC16
                      by_cases c17 : a0 = 39
                      · rw [if_pos c17] at H
                        have c17b0 : (a0 == 39) = true := beq_iff_eq.mpr c17
                        have c17b1 : (a0 != 39) = false := bne_eq_false_iff_eq.mpr c17
                        clear c17
                        (first | rw [c17b0] | (simp only [i64_w, i32_w]; rw [c17b0]) | skip)
                        have H' := Aside0.mk H
                        clear H
                        go_wp2
                        go_meet
                        case rel => exact ⟨_, (true), (by first | rfl | (simp; done) | (simp [*]; done)), H', ⟨by have := HJ1.out; have := HJ5.out; have := HJ12.out; first | omega | exact Nat.le_refl _⟩, by repeat (first | exact Drawn0.refl _ | apply Drawn0.step)⟩
                      · rw [if_neg c17] at H
                        have c17b0 : (a0 == 39) = false := beq_eq_false_iff_ne.mpr c17
                        have c17b1 : (a0 != 39) = true := bne_iff_ne.mpr c17
                        (first | rw [c17b0] | (simp only [i64_w, i32_w]; rw [c17b0]) | skip)
                        have H' := Aside0.mk H
                        clear H
                        go_wp2
                        go_meet
                        case rel => exact ⟨_, ((a0 == 34)), (by first | rfl | (simp; done) | (simp [*]; done)), H', ⟨by have := HJ1.out; have := HJ5.out; have := HJ12.out; first | omega | exact Nat.le_refl _⟩, by repeat (first | exact Drawn0.refl _ | apply Drawn0.step)⟩
                    case rest =>
                      clear HC16
                      try clear c1
                      try clear p2
                      try clear c3
                      try clear c3b0
                      try clear c4
                      try clear c4b0
                      try clear c5
                      try clear c7
                      try clear c7b0
                      try clear c7b1
                      try clear c8
                      try clear c8b0
                      try clear c9
                      try clear c9b0
                      try clear c10
                      try clear c10b0
                      try clear c11
                      try clear c11b0
                      try clear c12
                      try clear c14
                      try clear c14b0
                      try clear c15
                      try clear c17
                      try clear c17b0
                      try clear c17b1
                      try clear p2
                      obtain ⟨kq, x40_15, rfl, HA, HJ15, ⟨mc15, rfl⟩⟩ := hcut
                      cases kq with
                      | zero => exact absurd HA.out (by simp [scan_class.j3])
                      | succ kj15 =>
                        have H := HA.out
                        clear HA
                        simp only [scan_class.j3] at H
                        by_cases c18 : x40_15 = true
                        · subst c18
                          have H1 : (some 4) = some r := by rw [if_pos rfl] at H; exact H
                          clear H
                          have H := H1
                          clear H1
                          obtain rfl := Option.some.inj H
                          go_wp2
                          go_ret
                          exact ⟨by first | rfl | (simp; done) | (simp [*]; done), by repeat (first | exact Drawn0.refl _ | apply Drawn0.step)⟩
                        · replace c18 := Bool.eq_false_iff.mpr c18
                          subst c18
                          have H1 : (if a0 = 47 then (some 6) else ((strings_IndexByte.f (⟨#[123, 125, 91, 93, 40, 41, 60, 62, 59, 44, 61, 46, 45]⟩ : ByteArray) a0).bind fun t102 => (if t102 ≥ 0 then (some 5) else (some 0)))) = some r := by rw [if_neg (show ¬ (false = true) by decide)] at H; exact H
                          clear H
                          have H := H1
                          clear H1
                          by_cases c19 : a0 = 47
                          · rw [if_pos c19] at H
                            have c19b0 : (a0 == 47) = true := beq_iff_eq.mpr c19
                            have c19b1 : (a0 != 47) = false := bne_eq_false_iff_eq.mpr c19
                            clear c19
                            obtain rfl := Option.some.inj H
                            go_wp2
                            go_ret
                            exact ⟨by first | rfl | (simp; done) | (simp [*]; done), by repeat (first | exact Drawn0.refl _ | apply Drawn0.step)⟩
                          · rw [if_neg c19] at H
                            have c19b0 : (a0 == 47) = false := beq_eq_false_iff_ne.mpr c19
                            have c19b1 : (a0 != 47) = true := bne_iff_ne.mpr c19
                            replace H := Option.bind_eq_some_iff.mp H
                            obtain ⟨t102, A200, H⟩ := H
                            replace H : (if t102 ≥ 0 then (some 5) else (some 0)) = some r := H
                            have A20 := Aside0.mk A200
                            clear A200
                            by_cases c21 : t102 ≥ 0
                            · rw [if_pos c21] at H
                              have c21b0 : decide (0 ≤ t102) = true := decide_eq_true c21
                              clear c21
                              obtain rfl := Option.some.inj H
                              go_wp2_with (first | ((with_reducible refine gate_callee (f := 65) rfl ?_); refine goesL_ (some 52) rfl rfl Tryd.func65 (by kernel_rfl) rfl #[.string (⟨#[123, 125, 91, 93, 40, 41, 60, 62, 59, 44, 61, 46, 45]⟩ : ByteArray), .int .u8 a0] rfl (by (try simp only [List.map_toArray, List.map_cons, List.map_nil]); first | done | rfl | (simp only [List.length_drop, List.length_take]; rfl)) ?_; (with_reducible refine (strings_IndexByte.calls (⟨#[123, 125, 91, 93, 40, 41, 60, 62, 59, 44, 61, 46, 45]⟩ : ByteArray) a0 t102 _ A20.out).mono ?_); rintro e w' ⟨rfl, ⟨nd, rfl⟩⟩; refine ⟨_, rfl, ?_⟩))
                              go_ret
                              exact ⟨by first | rfl | (simp; done) | (simp [*]; done), by repeat (first | exact Drawn0.refl _ | apply Drawn0.step)⟩
                            · rw [if_neg c21] at H
                              have c21b0 : decide (0 ≤ t102) = false := decide_eq_false c21
                              clear c21
                              obtain rfl := Option.some.inj H
                              go_wp2_with (first | ((with_reducible refine gate_callee (f := 65) rfl ?_); refine goesL_ (some 52) rfl rfl Tryd.func65 (by kernel_rfl) rfl #[.string (⟨#[123, 125, 91, 93, 40, 41, 60, 62, 59, 44, 61, 46, 45]⟩ : ByteArray), .int .u8 a0] rfl (by (try simp only [List.map_toArray, List.map_cons, List.map_nil]); first | done | rfl | (simp only [List.length_drop, List.length_take]; rfl)) ?_; (with_reducible refine (strings_IndexByte.calls (⟨#[123, 125, 91, 93, 40, 41, 60, 62, 59, 44, 61, 46, 45]⟩ : ByteArray) a0 t102 _ A20.out).mono ?_); rintro e w' ⟨rfl, ⟨nd, rfl⟩⟩; refine ⟨_, rfl, ?_⟩))
                              go_ret
                              exact ⟨by first | rfl | (simp; done) | (simp [*]; done), by repeat (first | exact Drawn0.refl _ | apply Drawn0.step)⟩

/-! ### scan_simple: function 72 -/
def scan_simple.f (a0 : Int) : Option (Int × Bool) := if a0 = 97 then (some (7, true)) else (if a0 = 98 then (some (8, true)) else (if a0 = 102 then (some (12, true)) else (if a0 = 110 then (some (10, true)) else (if a0 = 114 then (some (13, true)) else (if a0 = 116 then (some (9, true)) else (if a0 = 118 then (some (11, true)) else (if a0 = 92 then (some (a0, true)) else (if a0 = 39 then (some (a0, true)) else (if a0 = 34 then (some (a0, true)) else (some (0, false)))))))))))
set_option maxHeartbeats 8000000 in
set_option maxRecDepth 100000 in
theorem scan_simple.calls (a0 : Int) (r1 : Int) (r2 : Bool) (w : World) (h : scan_simple.f a0 = some (r1, r2)) :
    Calls Tryd.prog 72 #[.int .u8 a0] w fun e w' => e = .returned (.tuple #[.int .u8 r1, .bool r2]) ∧ Drawn0 w w' := by
  have H : (if a0 = 97 then (some (7, true)) else (if a0 = 98 then (some (8, true)) else (if a0 = 102 then (some (12, true)) else (if a0 = 110 then (some (10, true)) else (if a0 = 114 then (some (13, true)) else (if a0 = 116 then (some (9, true)) else (if a0 = 118 then (some (11, true)) else (if a0 = 92 then (some (a0, true)) else (if a0 = 39 then (some (a0, true)) else (if a0 = 34 then (some (a0, true)) else (some (0, false)))))))))))) = some (r1, r2) := h
  clear h
  by_cases c2 : a0 = 97
  · rw [if_pos c2] at H
    have c2b0 : (a0 == 97) = true := beq_iff_eq.mpr c2
    have c2b1 : (a0 != 97) = false := bne_eq_false_iff_eq.mpr c2
    clear c2
    simp only [Option.some.injEq, Prod.mk.injEq] at H
    obtain ⟨rfl, rfl⟩ := H
    go_enter Tryd.func72, Tryd.ntmps72
    go_wp2
    go_ret2
    exact ⟨by first | rfl | (simp; done) | (simp [*]; done), by repeat (first | exact Drawn0.refl _ | apply Drawn0.step)⟩
  · rw [if_neg c2] at H
    have c2b0 : (a0 == 97) = false := beq_eq_false_iff_ne.mpr c2
    have c2b1 : (a0 != 97) = true := bne_iff_ne.mpr c2
    by_cases c3 : a0 = 98
    · rw [if_pos c3] at H
      have c3b0 : (a0 == 98) = true := beq_iff_eq.mpr c3
      have c3b1 : (a0 != 98) = false := bne_eq_false_iff_eq.mpr c3
      clear c3
      simp only [Option.some.injEq, Prod.mk.injEq] at H
      obtain ⟨rfl, rfl⟩ := H
      go_enter Tryd.func72, Tryd.ntmps72
      go_wp2
      go_ret2
      exact ⟨by first | rfl | (simp; done) | (simp [*]; done), by repeat (first | exact Drawn0.refl _ | apply Drawn0.step)⟩
    · rw [if_neg c3] at H
      have c3b0 : (a0 == 98) = false := beq_eq_false_iff_ne.mpr c3
      have c3b1 : (a0 != 98) = true := bne_iff_ne.mpr c3
      by_cases c4 : a0 = 102
      · rw [if_pos c4] at H
        have c4b0 : (a0 == 102) = true := beq_iff_eq.mpr c4
        have c4b1 : (a0 != 102) = false := bne_eq_false_iff_eq.mpr c4
        clear c4
        simp only [Option.some.injEq, Prod.mk.injEq] at H
        obtain ⟨rfl, rfl⟩ := H
        go_enter Tryd.func72, Tryd.ntmps72
        go_wp2
        go_ret2
        exact ⟨by first | rfl | (simp; done) | (simp [*]; done), by repeat (first | exact Drawn0.refl _ | apply Drawn0.step)⟩
      · rw [if_neg c4] at H
        have c4b0 : (a0 == 102) = false := beq_eq_false_iff_ne.mpr c4
        have c4b1 : (a0 != 102) = true := bne_iff_ne.mpr c4
        by_cases c5 : a0 = 110
        · rw [if_pos c5] at H
          have c5b0 : (a0 == 110) = true := beq_iff_eq.mpr c5
          have c5b1 : (a0 != 110) = false := bne_eq_false_iff_eq.mpr c5
          clear c5
          simp only [Option.some.injEq, Prod.mk.injEq] at H
          obtain ⟨rfl, rfl⟩ := H
          go_enter Tryd.func72, Tryd.ntmps72
          go_wp2
          go_ret2
          exact ⟨by first | rfl | (simp; done) | (simp [*]; done), by repeat (first | exact Drawn0.refl _ | apply Drawn0.step)⟩
        · rw [if_neg c5] at H
          have c5b0 : (a0 == 110) = false := beq_eq_false_iff_ne.mpr c5
          have c5b1 : (a0 != 110) = true := bne_iff_ne.mpr c5
          by_cases c6 : a0 = 114
          · rw [if_pos c6] at H
            have c6b0 : (a0 == 114) = true := beq_iff_eq.mpr c6
            have c6b1 : (a0 != 114) = false := bne_eq_false_iff_eq.mpr c6
            clear c6
            simp only [Option.some.injEq, Prod.mk.injEq] at H
            obtain ⟨rfl, rfl⟩ := H
            go_enter Tryd.func72, Tryd.ntmps72
            go_wp2
            go_ret2
            exact ⟨by first | rfl | (simp; done) | (simp [*]; done), by repeat (first | exact Drawn0.refl _ | apply Drawn0.step)⟩
          · rw [if_neg c6] at H
            have c6b0 : (a0 == 114) = false := beq_eq_false_iff_ne.mpr c6
            have c6b1 : (a0 != 114) = true := bne_iff_ne.mpr c6
            by_cases c7 : a0 = 116
            · rw [if_pos c7] at H
              have c7b0 : (a0 == 116) = true := beq_iff_eq.mpr c7
              have c7b1 : (a0 != 116) = false := bne_eq_false_iff_eq.mpr c7
              clear c7
              simp only [Option.some.injEq, Prod.mk.injEq] at H
              obtain ⟨rfl, rfl⟩ := H
              go_enter Tryd.func72, Tryd.ntmps72
              go_wp2
              go_ret2
              exact ⟨by first | rfl | (simp; done) | (simp [*]; done), by repeat (first | exact Drawn0.refl _ | apply Drawn0.step)⟩
            · rw [if_neg c7] at H
              have c7b0 : (a0 == 116) = false := beq_eq_false_iff_ne.mpr c7
              have c7b1 : (a0 != 116) = true := bne_iff_ne.mpr c7
              by_cases c8 : a0 = 118
              · rw [if_pos c8] at H
                have c8b0 : (a0 == 118) = true := beq_iff_eq.mpr c8
                have c8b1 : (a0 != 118) = false := bne_eq_false_iff_eq.mpr c8
                clear c8
                simp only [Option.some.injEq, Prod.mk.injEq] at H
                obtain ⟨rfl, rfl⟩ := H
                go_enter Tryd.func72, Tryd.ntmps72
                go_wp2
                go_ret2
                exact ⟨by first | rfl | (simp; done) | (simp [*]; done), by repeat (first | exact Drawn0.refl _ | apply Drawn0.step)⟩
              · rw [if_neg c8] at H
                have c8b0 : (a0 == 118) = false := beq_eq_false_iff_ne.mpr c8
                have c8b1 : (a0 != 118) = true := bne_iff_ne.mpr c8
                by_cases c9 : a0 = 92
                · rw [if_pos c9] at H
                  have c9b0 : (a0 == 92) = true := beq_iff_eq.mpr c9
                  have c9b1 : (a0 != 92) = false := bne_eq_false_iff_eq.mpr c9
                  clear c9
                  simp only [Option.some.injEq, Prod.mk.injEq] at H
                  obtain ⟨rfl, rfl⟩ := H
                  go_enter Tryd.func72, Tryd.ntmps72
                  go_wp2
                  go_ret2
                  exact ⟨by first | rfl | (simp; done) | (simp [*]; done), by repeat (first | exact Drawn0.refl _ | apply Drawn0.step)⟩
                · rw [if_neg c9] at H
                  have c9b0 : (a0 == 92) = false := beq_eq_false_iff_ne.mpr c9
                  have c9b1 : (a0 != 92) = true := bne_iff_ne.mpr c9
                  by_cases c10 : a0 = 39
                  · rw [if_pos c10] at H
                    have c10b0 : (a0 == 39) = true := beq_iff_eq.mpr c10
                    have c10b1 : (a0 != 39) = false := bne_eq_false_iff_eq.mpr c10
                    clear c10
                    simp only [Option.some.injEq, Prod.mk.injEq] at H
                    obtain ⟨rfl, rfl⟩ := H
                    go_enter Tryd.func72, Tryd.ntmps72
                    go_wp2
                    go_ret2
                    exact ⟨by first | rfl | (simp; done) | (simp [*]; done), by repeat (first | exact Drawn0.refl _ | apply Drawn0.step)⟩
                  · rw [if_neg c10] at H
                    have c10b0 : (a0 == 39) = false := beq_eq_false_iff_ne.mpr c10
                    have c10b1 : (a0 != 39) = true := bne_iff_ne.mpr c10
                    by_cases c11 : a0 = 34
                    · rw [if_pos c11] at H
                      have c11b0 : (a0 == 34) = true := beq_iff_eq.mpr c11
                      have c11b1 : (a0 != 34) = false := bne_eq_false_iff_eq.mpr c11
                      clear c11
                      simp only [Option.some.injEq, Prod.mk.injEq] at H
                      obtain ⟨rfl, rfl⟩ := H
                      go_enter Tryd.func72, Tryd.ntmps72
                      go_wp2
                      go_ret2
                      exact ⟨by first | rfl | (simp; done) | (simp [*]; done), by repeat (first | exact Drawn0.refl _ | apply Drawn0.step)⟩
                    · rw [if_neg c11] at H
                      have c11b0 : (a0 == 34) = false := beq_eq_false_iff_ne.mpr c11
                      have c11b1 : (a0 != 34) = true := bne_iff_ne.mpr c11
                      simp only [Option.some.injEq, Prod.mk.injEq] at H
                      obtain ⟨rfl, rfl⟩ := H
                      go_enter Tryd.func72, Tryd.ntmps72
                      go_wp2
                      go_ret2
                      exact ⟨by first | rfl | (simp; done) | (simp [*]; done), by repeat (first | exact Drawn0.refl _ | apply Drawn0.step)⟩

/-! ### scan_value: function 73 -/
mutual
def scan_value.j0 : Nat → Int → Bool → Option (Int)
  | 0, _, _ => none
  | k + 1, x0, x3 => if x3 = true then (some ((x0 - 48) % 256)) else (if x0 ≥ 97 then (scan_value.j1 k x0 (decide (x0 ≤ 102))) else (scan_value.j1 k x0 false))
def scan_value.j1 : Nat → Int → Bool → Option (Int)
  | 0, _, _ => none
  | k + 1, x0, x13 => if x13 = true then (some (((x0 - 97) % 256) + 10)) else (if x0 ≥ 65 then (if x0 ≤ 70 then (some (((x0 - 65) % 256) + 10)) else (some 99)) else (some 99))
end
def scan_value.f (k : Nat) (a0 : Int) : Option (Int) := if a0 ≥ 48 then (scan_value.j0 k a0 (decide (a0 ≤ 57))) else (scan_value.j0 k a0 false)
theorem scan_value.mono_l : ∀ k, (∀ y0 y1, LeO (scan_value.j0 k y0 y1) (scan_value.j0 (k + 1) y0 y1)) ∧ (∀ y0 y1, LeO (scan_value.j1 k y0 y1) (scan_value.j1 (k + 1) y0 y1))
  | 0 => ⟨fun _ _ r h => by simp [scan_value.j0] at h, fun _ _ r h => by simp [scan_value.j1] at h⟩
  | k + 1 => by
    obtain ⟨ih0, ih1⟩ := scan_value.mono_l k
    refine ⟨?_, ?_⟩
    · intro y0 y1
      unfold scan_value.j0
      repeat' first
      | (with_reducible exact ih0 _ _)
      | (with_reducible exact ih1 _ _)
      | (with_reducible exact LeO.refl _)
      | (with_reducible exact LeO.none _)
      | (with_reducible refine LeO.ite ?_ ?_)
      | (with_reducible refine LeO.bind ?_ (fun _ => ?_))
      | exact ih0 _ _
      | exact ih1 _ _
      | exact LeO.none _
      | refine LeO.ite ?_ ?_
      | refine LeO.bind ?_ (fun _ => ?_)
    · intro y0 y1
      unfold scan_value.j1
      repeat' first
      | (with_reducible exact ih0 _ _)
      | (with_reducible exact ih1 _ _)
      | (with_reducible exact LeO.refl _)
      | (with_reducible exact LeO.none _)
      | (with_reducible refine LeO.ite ?_ ?_)
      | (with_reducible refine LeO.bind ?_ (fun _ => ?_))
      | exact ih0 _ _
      | exact ih1 _ _
      | exact LeO.none _
      | refine LeO.ite ?_ ?_
      | refine LeO.bind ?_ (fun _ => ?_)
theorem scan_value.mono : ∀ a0 k, LeO (scan_value.f k a0) (scan_value.f (k + 1) a0) := by
  intro a0 k
  obtain ⟨ih0, ih1⟩ := scan_value.mono_l k
  unfold scan_value.f
  repeat' first
      | (with_reducible exact ih0 _ _)
      | (with_reducible exact ih1 _ _)
      | (with_reducible exact LeO.refl _)
      | (with_reducible exact LeO.none _)
      | (with_reducible refine LeO.ite ?_ ?_)
      | (with_reducible refine LeO.bind ?_ (fun _ => ?_))
      | exact ih0 _ _
      | exact ih1 _ _
      | exact LeO.none _
      | refine LeO.ite ?_ ?_
      | refine LeO.bind ?_ (fun _ => ?_)
set_option maxHeartbeats 8000000 in
set_option maxRecDepth 100000 in
theorem scan_value.calls (k : Nat) (a0 : Int) (r : Int) (w : World) (h : scan_value.f k a0 = some r) :
    Calls Tryd.prog 73 #[.int .u8 a0] w fun e w' => e = .returned (.int .i64 r) ∧ Drawn0 w w' := by
  have H : (if a0 ≥ 48 then (scan_value.j0 k a0 (decide (a0 ≤ 57))) else (scan_value.j0 k a0 false)) = some r := h
  clear h
  have HC2 := Aside0.mk H
  clear H
  go_enter Tryd.func73, Tryd.ntmps73
  go_upto_region 1 with (fail)
  go_cut [3] (fun v3 wc => ∃ (kq : Nat) (x3_1 : Bool), v3 = .bool x3_1 ∧ Aside0 (scan_value.j0 kq a0 x3_1 = some r) ∧ Aside0 (kq ≤ k) ∧ Drawn0 w wc)
  case first =>
    have H := HC2.out
    clear HC2
    by_cases c3 : a0 ≥ 48
    · rw [if_pos c3] at H
      have c3b0 : decide (48 ≤ a0) = true := decide_eq_true c3
      clear c3
      (first | rw [c3b0] | (simp only [i64_w, i32_w]; rw [c3b0]) | skip)
      have H' := Aside0.mk H
      clear H
      go_wp2
      go_meet
      case rel => exact ⟨_, (decide (a0 ≤ 57)), (by first | rfl | (simp; done) | (simp [*]; done)), H', ⟨by first | omega | exact Nat.le_refl _⟩, by repeat (first | exact Drawn0.refl _ | apply Drawn0.step)⟩
    · rw [if_neg c3] at H
      have c3b0 : decide (48 ≤ a0) = false := decide_eq_false c3
      clear c3
      (first | rw [c3b0] | (simp only [i64_w, i32_w]; rw [c3b0]) | skip)
      have H' := Aside0.mk H
      clear H
      go_wp2
      go_meet
      case rel => exact ⟨_, (false), (by first | rfl | (simp; done) | (simp [*]; done)), H', ⟨by first | omega | exact Nat.le_refl _⟩, by repeat (first | exact Drawn0.refl _ | apply Drawn0.step)⟩
  case rest =>
    clear HC2
    try clear p2
    try clear c3
    try clear c3b0
    obtain ⟨kq, x3_1, rfl, HA, HJ1, ⟨mc1, rfl⟩⟩ := hcut
    cases kq with
    | zero => exact absurd HA.out (by simp [scan_value.j0])
    | succ kj1 =>
      have H := HA.out
      clear HA
      simp only [scan_value.j0] at H
      by_cases c4 : x3_1 = true
      · subst c4
        have H1 : (some ((a0 - 48) % 256)) = some r := by rw [if_pos rfl] at H; exact H
        clear H
        have H := H1
        clear H1
        obtain rfl := Option.some.inj H
        go_wp2
        go_ret
        exact ⟨by first | rfl | (simp; done) | (simp [*]; done), by repeat (first | exact Drawn0.refl _ | apply Drawn0.step)⟩
      · replace c4 := Bool.eq_false_iff.mpr c4
        subst c4
        have H1 : (if a0 ≥ 97 then (scan_value.j1 kj1 a0 (decide (a0 ≤ 102))) else (scan_value.j1 kj1 a0 false)) = some r := by rw [if_neg (show ¬ (false = true) by decide)] at H; exact H
        clear H
        have H := H1
        clear H1
        have HC5 := Aside0.mk H
        clear H
        go_upto_region 3 with (fail)
        go_cut [13] (fun v13 wc => ∃ (kq : Nat) (x13_4 : Bool), v13 = .bool x13_4 ∧ Aside0 (scan_value.j1 kq a0 x13_4 = some r) ∧ Aside0 (kq ≤ kj1) ∧ Drawn0 w wc)
        case first =>
          have H := HC5.out
          clear HC5
          by_cases c6 : a0 ≥ 97
          · rw [if_pos c6] at H
            have c6b0 : decide (97 ≤ a0) = true := decide_eq_true c6
            clear c6
            (first | rw [c6b0] | (simp only [i64_w, i32_w]; rw [c6b0]) | skip)
            have H' := Aside0.mk H
            clear H
            go_wp2
            go_meet
            case rel => exact ⟨_, (decide (a0 ≤ 102)), (by first | rfl | (simp; done) | (simp [*]; done)), H', ⟨by have := HJ1.out; first | omega | exact Nat.le_refl _⟩, by repeat (first | exact Drawn0.refl _ | apply Drawn0.step)⟩
          · rw [if_neg c6] at H
            have c6b0 : decide (97 ≤ a0) = false := decide_eq_false c6
            clear c6
            (first | rw [c6b0] | (simp only [i64_w, i32_w]; rw [c6b0]) | skip)
            have H' := Aside0.mk H
            clear H
            go_wp2
            go_meet
            case rel => exact ⟨_, (false), (by first | rfl | (simp; done) | (simp [*]; done)), H', ⟨by have := HJ1.out; first | omega | exact Nat.le_refl _⟩, by repeat (first | exact Drawn0.refl _ | apply Drawn0.step)⟩
        case rest =>
          clear HC5
          try clear c1
          try clear p2
          try clear c3
          try clear c3b0
          try clear c4
          try clear c6
          try clear c6b0
          try clear p2
          obtain ⟨kq, x13_4, rfl, HA, HJ4, ⟨mc4, rfl⟩⟩ := hcut
          cases kq with
          | zero => exact absurd HA.out (by simp [scan_value.j1])
          | succ kj4 =>
            have H := HA.out
            clear HA
            simp only [scan_value.j1] at H
            by_cases c7 : x13_4 = true
            · subst c7
              have H1 : (some (((a0 - 97) % 256) + 10)) = some r := by rw [if_pos rfl] at H; exact H
              clear H
              have H := H1
              clear H1
              obtain rfl := Option.some.inj H
              go_wp2
              go_ret
              exact ⟨by first | rfl | (simp; done) | (simp [*]; done), by repeat (first | exact Drawn0.refl _ | apply Drawn0.step)⟩
            · replace c7 := Bool.eq_false_iff.mpr c7
              subst c7
              have H1 : (if a0 ≥ 65 then (if a0 ≤ 70 then (some (((a0 - 65) % 256) + 10)) else (some 99)) else (some 99)) = some r := by rw [if_neg (show ¬ (false = true) by decide)] at H; exact H
              clear H
              have H := H1
              clear H1
              by_cases c8 : a0 ≥ 65
              · rw [if_pos c8] at H
                have c8b0 : decide (65 ≤ a0) = true := decide_eq_true c8
                clear c8
                by_cases c9 : a0 ≤ 70
                · rw [if_pos c9] at H
                  have c9b0 : decide (a0 ≤ 70) = true := decide_eq_true c9
                  clear c9
                  obtain rfl := Option.some.inj H
                  go_wp2
                  go_ret
                  exact ⟨by first | rfl | (simp; done) | (simp [*]; done), by repeat (first | exact Drawn0.refl _ | apply Drawn0.step)⟩
                · rw [if_neg c9] at H
                  have c9b0 : decide (a0 ≤ 70) = false := decide_eq_false c9
                  clear c9
                  obtain rfl := Option.some.inj H
                  go_wp2
                  go_ret
                  exact ⟨by first | rfl | (simp; done) | (simp [*]; done), by repeat (first | exact Drawn0.refl _ | apply Drawn0.step)⟩
              · rw [if_neg c8] at H
                have c8b0 : decide (65 ≤ a0) = false := decide_eq_false c8
                clear c8
                obtain rfl := Option.some.inj H
                go_wp2
                go_ret
                exact ⟨by first | rfl | (simp; done) | (simp [*]; done), by repeat (first | exact Drawn0.refl _ | apply Drawn0.step)⟩

/-! ### scan_escape: function 53 -/
mutual
def scan_escape.j0 : Nat → ByteArray → Int → Int → Int → Bool → Option (Int × Int)
  | 0, _, _, _, _, _ => none
  | k + 1, x0, x6, x7, x8, x28 => if x28 = true then (scan_escape.j1 k x0 16 1 2) else (scan_escape.j1 k x0 x6 x7 x8)
def scan_escape.j1 : Nat → ByteArray → Int → Int → Int → Option (Int × Int)
  | 0, _, _, _, _ => none
  | k + 1, x0, x6, x7, x8 => scan_escape.l0 k x0 x6 x7 x8 0 x7
def scan_escape.l0 : Nat → ByteArray → Int → Int → Int → Int → Int → Option (Int × Int)
  | 0, _, _, _, _, _, _ => none
  | k + 1, x0, x6, x7, x8, x9, x10 => if x7 < (x0.size : Int) then (if x7 < (wrap64 (x10 + x8)) then (if 0 ≤ x7 then ((scan_value.f k (bt x0 x7)).bind fun t105 => (if t105 < x6 then ((scan_value.f k (bt x0 x7)).bind fun t106 => (scan_escape.l0 k x0 x6 (wrap64 (x7 + 1)) x8 (wrap64 ((wrap64 (x9 * x6)) + t106)) x10)) else (if x7 = x10 then (some (0, 0)) else (if x9 > 255 then (some (0, 0)) else (some ((x9) % 256, x7)))))) else (none)) else (if x7 = x10 then (some (0, 0)) else (if x9 > 255 then (some (0, 0)) else (some ((x9) % 256, x7))))) else (if x7 = x10 then (some (0, 0)) else (if x9 > 255 then (some (0, 0)) else (some ((x9) % 256, x7))))
end
def scan_escape.f (k : Nat) (a0 : ByteArray) : Option (Int × Int) := if a0.toList = ([] : List UInt8) then (some (0, 0)) else (if 0 < (a0.size : Int) then ((scan_simple.f (bt a0 0)).bind fun bt103 => (if bt103.2 = true then (some (bt103.1, 1)) else (if (bt a0 0) = 120 then (scan_escape.j0 k a0 8 0 3 true) else (scan_escape.j0 k a0 8 0 3 ((bt a0 0) == 88))))) else (none))
theorem scan_escape.mono_l : ∀ k, (∀ y0 y1 y2 y3 y4, LeO (scan_escape.j0 k y0 y1 y2 y3 y4) (scan_escape.j0 (k + 1) y0 y1 y2 y3 y4)) ∧ (∀ y0 y1 y2 y3, LeO (scan_escape.j1 k y0 y1 y2 y3) (scan_escape.j1 (k + 1) y0 y1 y2 y3)) ∧ (∀ y0 y1 y2 y3 y4 y5, LeO (scan_escape.l0 k y0 y1 y2 y3 y4 y5) (scan_escape.l0 (k + 1) y0 y1 y2 y3 y4 y5))
  | 0 => ⟨fun _ _ _ _ _ r h => by simp [scan_escape.j0] at h, fun _ _ _ _ r h => by simp [scan_escape.j1] at h, fun _ _ _ _ _ _ r h => by simp [scan_escape.l0] at h⟩
  | k + 1 => by
    obtain ⟨ih0, ih1, ih2⟩ := scan_escape.mono_l k
    refine ⟨?_, ?_, ?_⟩
    · intro y0 y1 y2 y3 y4
      unfold scan_escape.j0
      repeat' first
      | (with_reducible exact ih0 _ _ _ _ _)
      | (with_reducible exact ih1 _ _ _ _)
      | (with_reducible exact ih2 _ _ _ _ _ _)
      | (with_reducible exact scan_value.mono _ _)
      | (with_reducible exact LeO.refl _)
      | (with_reducible exact LeO.none _)
      | (with_reducible refine LeO.ite ?_ ?_)
      | (with_reducible refine LeO.bind ?_ (fun _ => ?_))
      | exact ih0 _ _ _ _ _
      | exact ih1 _ _ _ _
      | exact ih2 _ _ _ _ _ _
      | exact scan_value.mono _ _
      | exact LeO.none _
      | refine LeO.ite ?_ ?_
      | refine LeO.bind ?_ (fun _ => ?_)
    · intro y0 y1 y2 y3
      unfold scan_escape.j1
      repeat' first
      | (with_reducible exact ih0 _ _ _ _ _)
      | (with_reducible exact ih1 _ _ _ _)
      | (with_reducible exact ih2 _ _ _ _ _ _)
      | (with_reducible exact scan_value.mono _ _)
      | (with_reducible exact LeO.refl _)
      | (with_reducible exact LeO.none _)
      | (with_reducible refine LeO.ite ?_ ?_)
      | (with_reducible refine LeO.bind ?_ (fun _ => ?_))
      | exact ih0 _ _ _ _ _
      | exact ih1 _ _ _ _
      | exact ih2 _ _ _ _ _ _
      | exact scan_value.mono _ _
      | exact LeO.none _
      | refine LeO.ite ?_ ?_
      | refine LeO.bind ?_ (fun _ => ?_)
    · intro y0 y1 y2 y3 y4 y5
      unfold scan_escape.l0
      repeat' first
      | (with_reducible exact ih0 _ _ _ _ _)
      | (with_reducible exact ih1 _ _ _ _)
      | (with_reducible exact ih2 _ _ _ _ _ _)
      | (with_reducible exact scan_value.mono _ _)
      | (with_reducible exact LeO.refl _)
      | (with_reducible exact LeO.none _)
      | (with_reducible refine LeO.ite ?_ ?_)
      | (with_reducible refine LeO.bind ?_ (fun _ => ?_))
      | exact ih0 _ _ _ _ _
      | exact ih1 _ _ _ _
      | exact ih2 _ _ _ _ _ _
      | exact scan_value.mono _ _
      | exact LeO.none _
      | refine LeO.ite ?_ ?_
      | refine LeO.bind ?_ (fun _ => ?_)
theorem scan_escape.mono : ∀ a0 k, LeO (scan_escape.f k a0) (scan_escape.f (k + 1) a0) := by
  intro a0 k
  obtain ⟨ih0, ih1, ih2⟩ := scan_escape.mono_l k
  unfold scan_escape.f
  repeat' first
      | (with_reducible exact ih0 _ _ _ _ _)
      | (with_reducible exact ih1 _ _ _ _)
      | (with_reducible exact ih2 _ _ _ _ _ _)
      | (with_reducible exact scan_value.mono _ _)
      | (with_reducible exact LeO.refl _)
      | (with_reducible exact LeO.none _)
      | (with_reducible refine LeO.ite ?_ ?_)
      | (with_reducible refine LeO.bind ?_ (fun _ => ?_))
      | exact ih0 _ _ _ _ _
      | exact ih1 _ _ _ _
      | exact ih2 _ _ _ _ _ _
      | exact scan_value.mono _ _
      | exact LeO.none _
      | refine LeO.ite ?_ ?_
      | refine LeO.bind ?_ (fun _ => ?_)
set_option maxHeartbeats 8000000 in
set_option maxRecDepth 100000 in
theorem scan_escape.calls (k : Nat) (a0 : ByteArray) (r1 : Int) (r2 : Int) (w : World) (h : scan_escape.f k a0 = some (r1, r2)) :
    Calls Tryd.prog 53 #[.string a0] w fun e w' => e = .returned (.tuple #[.int .u8 r1, .int .i64 r2]) ∧ Drawn0 w w' := by
  have H : (if a0.toList = ([] : List UInt8) then (some (0, 0)) else (if 0 < (a0.size : Int) then ((scan_simple.f (bt a0 0)).bind fun bt103 => (if bt103.2 = true then (some (bt103.1, 1)) else (if (bt a0 0) = 120 then (scan_escape.j0 k a0 8 0 3 true) else (scan_escape.j0 k a0 8 0 3 ((bt a0 0) == 88))))) else (none))) = some (r1, r2) := h
  clear h
  by_cases c2 : a0.toList = ([] : List UInt8)
  · rw [if_pos c2] at H
    have c2b0 : (a0.toList == ([] : List UInt8)) = true := beq_iff_eq.mpr c2
    have c2b1 : (a0.toList != ([] : List UInt8)) = false := bne_eq_false_iff_eq.mpr c2
    clear c2
    simp only [Option.some.injEq, Prod.mk.injEq] at H
    obtain ⟨rfl, rfl⟩ := H
    go_enter Tryd.func53, Tryd.ntmps53
    go_wp2
    go_ret2
    exact ⟨by first | rfl | (simp; done) | (simp [*]; done), by repeat (first | exact Drawn0.refl _ | apply Drawn0.step)⟩
  · rw [if_neg c2] at H
    have c2b0 : (a0.toList == ([] : List UInt8)) = false := beq_eq_false_iff_ne.mpr c2
    have c2b1 : (a0.toList != ([] : List UInt8)) = true := bne_iff_ne.mpr c2
    by_cases c3 : 0 < (a0.size : Int)
    · rw [if_pos c3] at H
      have c3b0 : decide (0 < (a0.size : Int)) = true := decide_eq_true c3
      have c3b1 : decide (0 < a0.size) = true := decide_eq_true (by omega)
      clear c3
      replace H := Option.bind_eq_some_iff.mp H
      obtain ⟨⟨t103, t104⟩, A50, H⟩ := H
      replace H : (if t104 = true then (some (t103, 1)) else (if (bt a0 0) = 120 then (scan_escape.j0 k a0 8 0 3 true) else (scan_escape.j0 k a0 8 0 3 ((bt a0 0) == 88)))) = some (r1, r2) := H
      have A5 := Aside0.mk A50
      clear A50
      by_cases c6 : t104 = true
      · subst c6
        have H1 : (some (t103, 1)) = some (r1, r2) := by rw [if_pos rfl] at H; exact H
        clear H
        have H := H1
        clear H1
        simp only [Option.some.injEq, Prod.mk.injEq] at H
        obtain ⟨rfl, rfl⟩ := H
        have p4 : 0 ≤ (0 : Int) := (by omega)
        have q4 : 0 < a0.size := (by have : (0 : Int) < (a0.size : Int) := of_decide_eq_true (by first | (with_reducible assumption) | assumption); omega)
        have hx4 : ∀ h : 0 < a0.size, ((a0[0]'h).toNat : Int) = bt a0 0 := bt_at a0 0
        clear p4
        have qi4 : (0 < (a0.size : Int)) = True := eq_true (of_decide_eq_true (by first | (with_reducible assumption) | assumption))
        replace q4 := eq_true q4
        go_enter Tryd.func53, Tryd.ntmps53
        go_wp2_with (first | ((with_reducible refine gate_callee (f := 72) rfl ?_); refine goesL_ (some 16) rfl rfl Tryd.func72 (by kernel_rfl) rfl #[.int .u8 (bt a0 0)] rfl (by (try simp only [List.map_toArray, List.map_cons, List.map_nil]); first | done | rfl | (simp only [List.length_drop, List.length_take]; rfl)) ?_; (with_reducible refine (scan_simple.calls (bt a0 0) t103 true _ A5.out).mono ?_); rintro e w' ⟨rfl, ⟨nd, rfl⟩⟩; refine ⟨_, rfl, ?_⟩))
        go_ret2
        exact ⟨by first | rfl | (simp; done) | (simp [*]; done), by repeat (first | exact Drawn0.refl _ | apply Drawn0.step)⟩
      · replace c6 := Bool.eq_false_iff.mpr c6
        subst c6
        have H1 : (if (bt a0 0) = 120 then (scan_escape.j0 k a0 8 0 3 true) else (scan_escape.j0 k a0 8 0 3 ((bt a0 0) == 88))) = some (r1, r2) := by rw [if_neg (show ¬ (false = true) by decide)] at H; exact H
        clear H
        have H := H1
        clear H1
        have HC7 := Aside0.mk H
        clear H
        have p4 : 0 ≤ (0 : Int) := (by omega)
        have q4 : 0 < a0.size := (by have : (0 : Int) < (a0.size : Int) := of_decide_eq_true (by first | (with_reducible assumption) | assumption); omega)
        have hx4 : ∀ h : 0 < a0.size, ((a0[0]'h).toNat : Int) = bt a0 0 := bt_at a0 0
        clear p4
        have qi4 : (0 < (a0.size : Int)) = True := eq_true (of_decide_eq_true (by first | (with_reducible assumption) | assumption))
        replace q4 := eq_true q4
        go_enter Tryd.func53, Tryd.ntmps53
        go_upto_region 7 with (first | ((with_reducible refine gate_callee (f := 72) rfl ?_); refine goesL_ (some 16) rfl rfl Tryd.func72 (by kernel_rfl) rfl #[.int .u8 (bt a0 0)] rfl (by (try simp only [List.map_toArray, List.map_cons, List.map_nil]); first | done | rfl | (simp only [List.length_drop, List.length_take]; rfl)) ?_; (with_reducible refine (scan_simple.calls (bt a0 0) t103 false _ A5.out).mono ?_); rintro e w' ⟨rfl, ⟨nd, rfl⟩⟩; refine ⟨_, rfl, ?_⟩))
        (try simp only [Act.put, List.setIfInBounds_toArray, List.set_cons_zero, List.set_cons_succ])
        go_cut [28] (fun v28 wc => ∃ (kq : Nat) (x28_6 : Bool), v28 = .bool x28_6 ∧ Aside0 (scan_escape.j0 kq a0 8 0 3 x28_6 = some (r1, r2)) ∧ Aside0 (kq ≤ k) ∧ Drawn0 w wc)
        case first =>
          have H := HC7.out
          clear HC7
          by_cases c9 : (bt a0 0) = 120
          · rw [if_pos c9] at H
            have c9b0 : ((bt a0 0) == 120) = true := beq_iff_eq.mpr c9
            have c9b1 : ((bt a0 0) != 120) = false := bne_eq_false_iff_eq.mpr c9
            clear c9
            (first | rw [c9b0] | (simp only [i64_w, i32_w]; rw [c9b0]) | skip)
            have H' := Aside0.mk H
            clear H
            have p8 : 0 ≤ (0 : Int) := (by omega)
            have q8 : 0 < a0.size := (by have : (0 : Int) < (a0.size : Int) := of_decide_eq_true (by first | (with_reducible assumption) | assumption); omega)
            have hx8 : ∀ h : 0 < a0.size, ((a0[0]'h).toNat : Int) = bt a0 0 := bt_at a0 0
            clear p8
            have qi8 : (0 < (a0.size : Int)) = True := eq_true (of_decide_eq_true (by first | (with_reducible assumption) | assumption))
            replace q8 := eq_true q8
            go_wp2
            go_meet
            case rel => exact ⟨_, (true), (by first | rfl | (simp; done) | (simp [*]; done)), H', ⟨by first | omega | exact Nat.le_refl _⟩, by repeat (first | exact Drawn0.refl _ | apply Drawn0.step)⟩
          · rw [if_neg c9] at H
            have c9b0 : ((bt a0 0) == 120) = false := beq_eq_false_iff_ne.mpr c9
            have c9b1 : ((bt a0 0) != 120) = true := bne_iff_ne.mpr c9
            (first | rw [c9b0] | (simp only [i64_w, i32_w]; rw [c9b0]) | skip)
            have H' := Aside0.mk H
            clear H
            have p8 : 0 ≤ (0 : Int) := (by omega)
            have q8 : 0 < a0.size := (by have : (0 : Int) < (a0.size : Int) := of_decide_eq_true (by first | (with_reducible assumption) | assumption); omega)
            have hx8 : ∀ h : 0 < a0.size, ((a0[0]'h).toNat : Int) = bt a0 0 := bt_at a0 0
            clear p8
            have qi8 : (0 < (a0.size : Int)) = True := eq_true (of_decide_eq_true (by first | (with_reducible assumption) | assumption))
            replace q8 := eq_true q8
            have p10 : 0 ≤ (0 : Int) := (by omega)
            have q10 : 0 < a0.size := (by have : (0 : Int) < (a0.size : Int) := of_decide_eq_true (by first | (with_reducible assumption) | assumption); omega)
            have hx10 : ∀ h : 0 < a0.size, ((a0[0]'h).toNat : Int) = bt a0 0 := bt_at a0 0
            clear p10
            have qi10 : (0 < (a0.size : Int)) = True := eq_true (of_decide_eq_true (by first | (with_reducible assumption) | assumption))
            replace q10 := eq_true q10
            go_wp2
            go_meet
            case rel => exact ⟨_, (((bt a0 0) == 88)), (by first | rfl | (simp; done) | (simp [*]; done)), H', ⟨by first | omega | exact Nat.le_refl _⟩, by repeat (first | exact Drawn0.refl _ | apply Drawn0.step)⟩
        case rest =>
          clear HC7
          try clear p1
          try clear q1
          try clear hx1
          try clear qi1
          try clear c2
          try clear c2b0
          try clear c2b1
          try clear p2
          try clear c3
          try clear c3b0
          try clear c3b1
          try clear p4
          try clear q4
          try clear hx4
          try clear qi4
          try clear c5
          try clear c6
          try clear c7
          try clear p8
          try clear q8
          try clear hx8
          try clear qi8
          try clear c9
          try clear c9b0
          try clear c9b1
          try clear p10
          try clear q10
          try clear hx10
          try clear qi10
          try clear p10
          try clear p4
          try clear p8
          try clear q10
          try clear q4
          try clear q8
          obtain ⟨kq, x28_6, rfl, HA, HJ6, ⟨mc6, rfl⟩⟩ := hcut
          cases kq with
          | zero => exact absurd HA.out (by simp [scan_escape.j0])
          | succ kj6 =>
            have H := HA.out
            clear HA
            simp only [scan_escape.j0] at H
            have HC11 := Aside0.mk H
            clear H
            go_upto_if 28 with (fail)
            go_cut [6, 7, 8] (fun v6 v7 v8 wc => ∃ (kq : Nat) (x6_10 : Int) (x7_10 : Int) (x8_10 : Int), v6 = .int .i64 x6_10 ∧ v7 = .int .i64 x7_10 ∧ v8 = .int .i64 x8_10 ∧ Aside0 (scan_escape.j1 kq a0 x6_10 x7_10 x8_10 = some (r1, r2)) ∧ Aside0 (kq ≤ kj6) ∧ Drawn0 w wc)
            case first =>
              have H := HC11.out
              clear HC11
              by_cases c12 : x28_6 = true
              · subst c12
                have H1 : (scan_escape.j1 kj6 a0 16 1 2) = some (r1, r2) := by rw [if_pos rfl] at H; exact H
                clear H
                have H := H1
                clear H1
                have H' := Aside0.mk H
                clear H
                go_wp2
                go_meet
                case rel => exact ⟨_, (16), (1), (2), (by first | rfl | (simp; done) | (simp [*]; done)), (by first | rfl | (simp; done) | (simp [*]; done)), (by first | rfl | (simp; done) | (simp [*]; done)), H', ⟨by have := HJ6.out; first | omega | exact Nat.le_refl _⟩, by repeat (first | exact Drawn0.refl _ | apply Drawn0.step)⟩
              · replace c12 := Bool.eq_false_iff.mpr c12
                subst c12
                have H1 : (scan_escape.j1 kj6 a0 8 0 3) = some (r1, r2) := by rw [if_neg (show ¬ (false = true) by decide)] at H; exact H
                clear H
                have H := H1
                clear H1
                have H' := Aside0.mk H
                clear H
                go_wp2
                go_meet
                case rel => exact ⟨_, (8), (0), (3), (by first | rfl | (simp; done) | (simp [*]; done)), (by first | rfl | (simp; done) | (simp [*]; done)), (by first | rfl | (simp; done) | (simp [*]; done)), H', ⟨by have := HJ6.out; first | omega | exact Nat.le_refl _⟩, by repeat (first | exact Drawn0.refl _ | apply Drawn0.step)⟩
            case rest =>
              clear HC11
              try clear c1
              try clear p1
              try clear q1
              try clear hx1
              try clear qi1
              try clear c2
              try clear c2b0
              try clear c2b1
              try clear p2
              try clear c3
              try clear c3b0
              try clear c3b1
              try clear p4
              try clear q4
              try clear hx4
              try clear qi4
              try clear c5
              try clear c6
              try clear c7
              try clear p8
              try clear q8
              try clear hx8
              try clear qi8
              try clear c9
              try clear c9b0
              try clear c9b1
              try clear p10
              try clear q10
              try clear hx10
              try clear qi10
              try clear c12
              try clear p1
              try clear p10
              try clear p2
              try clear p4
              try clear p8
              try clear q1
              try clear q10
              try clear q4
              try clear q8
              obtain ⟨kq, x6_10, x7_10, x8_10, rfl, rfl, rfl, HA, HJ10, ⟨mc10, rfl⟩⟩ := hcut
              cases kq with
              | zero => exact absurd HA.out (by simp [scan_escape.j1])
              | succ kj10 =>
                have H := HA.out
                clear HA
                simp only [scan_escape.j1] at H
                have H' := Aside0.mk H
                clear H
                go_wp2
                go_loopg [7, 9] kj10 (fun kq v7 v9 w' => ∃ (x7_3 : Int) (x9_3 : Int), v7 = .int .i64 x7_3 ∧ v9 = .int .i64 x9_3 ∧ Aside0 (scan_escape.l0 kq a0 x6_10 x7_3 x8_10 x9_3 x7_10 = some (r1, r2)) ∧ Aside0 (kq ≤ kj10) ∧ Drawn0 w w')
                case atStart => exact ⟨(x7_10), (0), (by first | rfl | (simp; done) | (simp [*]; done)), (by first | rfl | (simp; done) | (simp [*]; done)), H', ⟨Nat.le_refl _⟩, by repeat (first | exact Drawn0.refl _ | apply Drawn0.step)⟩
                case round =>
                  clear H'
                  try clear c1
                  try clear p1
                  try clear q1
                  try clear hx1
                  try clear qi1
                  try clear c2
                  try clear c2b0
                  try clear c2b1
                  try clear p2
                  try clear c3
                  try clear c3b0
                  try clear c3b1
                  try clear p4
                  try clear q4
                  try clear hx4
                  try clear qi4
                  try clear c5
                  try clear c6
                  try clear c7
                  try clear p8
                  try clear q8
                  try clear hx8
                  try clear qi8
                  try clear c9
                  try clear c9b0
                  try clear c9b1
                  try clear c10
                  try clear p10
                  try clear q10
                  try clear hx10
                  try clear qi10
                  try clear c12
                  try clear p1
                  try clear p10
                  try clear p2
                  try clear p4
                  try clear p8
                  try clear q1
                  try clear q10
                  try clear q4
                  try clear q8
                  obtain ⟨x7_3, x9_3, rfl, rfl, HA, HK3, ⟨m3, rfl⟩⟩ := hrel
                  cases gk with
                  | zero => exact absurd HA.out (by simp [scan_escape.l0])
                  | succ k3 =>
                    have H := HA.out
                    clear HA
                    simp only [scan_escape.l0] at H
                    by_cases c13 : x7_3 < (a0.size : Int)
                    · rw [if_pos c13] at H
                      have c13b0 : decide (x7_3 < (a0.size : Int)) = true := decide_eq_true c13
                      clear c13
                      by_cases c14 : x7_3 < (wrap64 (x7_10 + x8_10))
                      · rw [if_pos c14] at H
                        have c14b0 : decide (x7_3 < (wrap64 (x7_10 + x8_10))) = true := decide_eq_true c14
                        clear c14
                        by_cases c15 : 0 ≤ x7_3
                        · rw [if_pos c15] at H
                          have c15b0 : decide (0 ≤ x7_3) = true := decide_eq_true c15
                          clear c15
                          replace H := Option.bind_eq_some_iff.mp H
                          obtain ⟨t105, A170, H⟩ := H
                          replace H : (if t105 < x6_10 then ((scan_value.f k3 (bt a0 x7_3)).bind fun t106 => (scan_escape.l0 k3 a0 x6_10 (wrap64 (x7_3 + 1)) x8_10 (wrap64 ((wrap64 (x9_3 * x6_10)) + t106)) x7_10)) else (if x7_3 = x7_10 then (some (0, 0)) else (if x9_3 > 255 then (some (0, 0)) else (some ((x9_3) % 256, x7_3))))) = some (r1, r2) := H
                          have A17 := Aside0.mk A170
                          clear A170
                          by_cases c18 : t105 < x6_10
                          · rw [if_pos c18] at H
                            have c18b0 : decide (t105 < x6_10) = true := decide_eq_true c18
                            clear c18
                            replace H := Option.bind_eq_some_iff.mp H
                            obtain ⟨t106, A200, H⟩ := H
                            replace H : (scan_escape.l0 k3 a0 x6_10 (wrap64 (x7_3 + 1)) x8_10 (wrap64 ((wrap64 (x9_3 * x6_10)) + t106)) x7_10) = some (r1, r2) := H
                            have A20 := Aside0.mk A200
                            clear A200
                            have H' := Aside0.mk H
                            clear H
                            have p16 : 0 ≤ (x7_3 : Int) := of_decide_eq_true (by first | (with_reducible assumption) | assumption)
                            have q16 : x7_3 < (a0.size : Int) := of_decide_eq_true (by first | (with_reducible assumption) | assumption)
                            have hx16 := bt_at a0 x7_3
                            replace p16 := eq_true p16
                            replace q16 := eq_true q16
                            go_wp2_with (first | (go_at_call 73; (with_reducible refine (scan_value.calls k3 (bt a0 x7_3) t105 _ A17.out).mono ?_); rintro e w' ⟨rfl, ⟨nd, rfl⟩⟩; have p19 : 0 ≤ (x7_3 : Int) := of_decide_eq_true (by first | (with_reducible assumption) | assumption); have q19 : x7_3 < (a0.size : Int) := of_decide_eq_true (by first | (with_reducible assumption) | assumption); have hx19 := bt_at a0 x7_3; replace p19 := eq_true p19; replace q19 := eq_true q19) | ((with_reducible refine gate_callee (f := 73) rfl ?_); refine goesL_ (some 55) rfl rfl Tryd.func73 (by kernel_rfl) rfl #[.int .u8 (bt a0 x7_3)] rfl (by (try simp only [List.map_toArray, List.map_cons, List.map_nil]); first | done | rfl | (simp only [List.length_drop, List.length_take]; rfl)) ?_; (with_reducible refine (scan_value.calls k3 (bt a0 x7_3) t106 _ A20.out).mono ?_); rintro e w' ⟨rfl, ⟨nd, rfl⟩⟩; refine ⟨_, rfl, ?_⟩))
                            go_roundg k3
                            case measure => have := HJ6.out; have := HJ10.out; have := HK3.out; omega
                            case rel => exact ⟨(wrap64 (x7_3 + 1)), (wrap64 ((wrap64 (x9_3 * x6_10)) + t106)), (by first | rfl | (simp; done) | (simp [*]; done)), (by first | rfl | (simp; done) | (simp [*]; done)), H', ⟨by have := HJ6.out; have := HJ10.out; have := HK3.out; omega⟩, by repeat (first | exact Drawn0.refl _ | apply Drawn0.step)⟩
                          · rw [if_neg c18] at H
                            have c18b0 : decide (t105 < x6_10) = false := decide_eq_false c18
                            clear c18
                            by_cases c21 : x7_3 = x7_10
                            · rw [if_pos c21] at H
                              have c21b0 : (x7_3 == x7_10) = true := beq_iff_eq.mpr c21
                              have c21b1 : (x7_3 != x7_10) = false := bne_eq_false_iff_eq.mpr c21
                              clear c21
                              simp only [Option.some.injEq, Prod.mk.injEq] at H
                              obtain ⟨rfl, rfl⟩ := H
                              have p16 : 0 ≤ (x7_3 : Int) := of_decide_eq_true (by first | (with_reducible assumption) | assumption)
                              have q16 : x7_3 < (a0.size : Int) := of_decide_eq_true (by first | (with_reducible assumption) | assumption)
                              have hx16 := bt_at a0 x7_3
                              replace p16 := eq_true p16
                              replace q16 := eq_true q16
                              go_wp2_with (first | (go_at_call 73; (with_reducible refine (scan_value.calls k3 (bt a0 x7_3) t105 _ A17.out).mono ?_); rintro e w' ⟨rfl, ⟨nd, rfl⟩⟩))
                              go_ret2
                              exact ⟨by first | rfl | (simp; done) | (simp [*]; done), by repeat (first | exact Drawn0.refl _ | apply Drawn0.step)⟩
                            · rw [if_neg c21] at H
                              have c21b0 : (x7_3 == x7_10) = false := beq_eq_false_iff_ne.mpr c21
                              have c21b1 : (x7_3 != x7_10) = true := bne_iff_ne.mpr c21
                              by_cases c22 : x9_3 > 255
                              · rw [if_pos c22] at H
                                have c22b0 : decide (255 < x9_3) = true := decide_eq_true c22
                                clear c22
                                simp only [Option.some.injEq, Prod.mk.injEq] at H
                                obtain ⟨rfl, rfl⟩ := H
                                have p16 : 0 ≤ (x7_3 : Int) := of_decide_eq_true (by first | (with_reducible assumption) | assumption)
                                have q16 : x7_3 < (a0.size : Int) := of_decide_eq_true (by first | (with_reducible assumption) | assumption)
                                have hx16 := bt_at a0 x7_3
                                replace p16 := eq_true p16
                                replace q16 := eq_true q16
                                go_wp2_with (first | (go_at_call 73; (with_reducible refine (scan_value.calls k3 (bt a0 x7_3) t105 _ A17.out).mono ?_); rintro e w' ⟨rfl, ⟨nd, rfl⟩⟩))
                                go_ret2
                                exact ⟨by first | rfl | (simp; done) | (simp [*]; done), by repeat (first | exact Drawn0.refl _ | apply Drawn0.step)⟩
                              · rw [if_neg c22] at H
                                have c22b0 : decide (255 < x9_3) = false := decide_eq_false c22
                                clear c22
                                simp only [Option.some.injEq, Prod.mk.injEq] at H
                                obtain ⟨rfl, rfl⟩ := H
                                have p16 : 0 ≤ (x7_3 : Int) := of_decide_eq_true (by first | (with_reducible assumption) | assumption)
                                have q16 : x7_3 < (a0.size : Int) := of_decide_eq_true (by first | (with_reducible assumption) | assumption)
                                have hx16 := bt_at a0 x7_3
                                replace p16 := eq_true p16
                                replace q16 := eq_true q16
                                go_wp2_with (first | (go_at_call 73; (with_reducible refine (scan_value.calls k3 (bt a0 x7_3) t105 _ A17.out).mono ?_); rintro e w' ⟨rfl, ⟨nd, rfl⟩⟩))
                                go_ret2
                                exact ⟨by first | rfl | (simp; done) | (simp [*]; done), by repeat (first | exact Drawn0.refl _ | apply Drawn0.step)⟩
                        · rw [if_neg c15] at H
                          exact absurd H (by simp)
                      · rw [if_neg c14] at H
                        have c14b0 : decide (x7_3 < (wrap64 (x7_10 + x8_10))) = false := decide_eq_false c14
                        clear c14
                        by_cases c23 : x7_3 = x7_10
                        · rw [if_pos c23] at H
                          have c23b0 : (x7_3 == x7_10) = true := beq_iff_eq.mpr c23
                          have c23b1 : (x7_3 != x7_10) = false := bne_eq_false_iff_eq.mpr c23
                          clear c23
                          simp only [Option.some.injEq, Prod.mk.injEq] at H
                          obtain ⟨rfl, rfl⟩ := H
                          go_wp2
                          go_ret2
                          exact ⟨by first | rfl | (simp; done) | (simp [*]; done), by repeat (first | exact Drawn0.refl _ | apply Drawn0.step)⟩
                        · rw [if_neg c23] at H
                          have c23b0 : (x7_3 == x7_10) = false := beq_eq_false_iff_ne.mpr c23
                          have c23b1 : (x7_3 != x7_10) = true := bne_iff_ne.mpr c23
                          by_cases c24 : x9_3 > 255
                          · rw [if_pos c24] at H
                            have c24b0 : decide (255 < x9_3) = true := decide_eq_true c24
                            clear c24
                            simp only [Option.some.injEq, Prod.mk.injEq] at H
                            obtain ⟨rfl, rfl⟩ := H
                            go_wp2
                            go_ret2
                            exact ⟨by first | rfl | (simp; done) | (simp [*]; done), by repeat (first | exact Drawn0.refl _ | apply Drawn0.step)⟩
                          · rw [if_neg c24] at H
                            have c24b0 : decide (255 < x9_3) = false := decide_eq_false c24
                            clear c24
                            simp only [Option.some.injEq, Prod.mk.injEq] at H
                            obtain ⟨rfl, rfl⟩ := H
                            go_wp2
                            go_ret2
                            exact ⟨by first | rfl | (simp; done) | (simp [*]; done), by repeat (first | exact Drawn0.refl _ | apply Drawn0.step)⟩
                    · rw [if_neg c13] at H
                      have c13b0 : decide (x7_3 < (a0.size : Int)) = false := decide_eq_false c13
                      clear c13
                      by_cases c25 : x7_3 = x7_10
                      · rw [if_pos c25] at H
                        have c25b0 : (x7_3 == x7_10) = true := beq_iff_eq.mpr c25
                        have c25b1 : (x7_3 != x7_10) = false := bne_eq_false_iff_eq.mpr c25
                        clear c25
                        simp only [Option.some.injEq, Prod.mk.injEq] at H
                        obtain ⟨rfl, rfl⟩ := H
                        go_wp2
                        go_ret2
                        exact ⟨by first | rfl | (simp; done) | (simp [*]; done), by repeat (first | exact Drawn0.refl _ | apply Drawn0.step)⟩
                      · rw [if_neg c25] at H
                        have c25b0 : (x7_3 == x7_10) = false := beq_eq_false_iff_ne.mpr c25
                        have c25b1 : (x7_3 != x7_10) = true := bne_iff_ne.mpr c25
                        by_cases c26 : x9_3 > 255
                        · rw [if_pos c26] at H
                          have c26b0 : decide (255 < x9_3) = true := decide_eq_true c26
                          clear c26
                          simp only [Option.some.injEq, Prod.mk.injEq] at H
                          obtain ⟨rfl, rfl⟩ := H
                          go_wp2
                          go_ret2
                          exact ⟨by first | rfl | (simp; done) | (simp [*]; done), by repeat (first | exact Drawn0.refl _ | apply Drawn0.step)⟩
                        · rw [if_neg c26] at H
                          have c26b0 : decide (255 < x9_3) = false := decide_eq_false c26
                          clear c26
                          simp only [Option.some.injEq, Prod.mk.injEq] at H
                          obtain ⟨rfl, rfl⟩ := H
                          go_wp2
                          go_ret2
                          exact ⟨by first | rfl | (simp; done) | (simp [*]; done), by repeat (first | exact Drawn0.refl _ | apply Drawn0.step)⟩
    · rw [if_neg c3] at H
      exact absurd H (by simp)

end Go.Proofs.YtabgnbbljjohdaaRDoor.A
