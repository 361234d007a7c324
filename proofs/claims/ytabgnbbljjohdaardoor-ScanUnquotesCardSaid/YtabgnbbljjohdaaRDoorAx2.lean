-- THIS SESSION'S TEXT: written by plugprint.py out of the translation, with contracts proved by hand.
import Derived.Test.YtabgnbbljjohdaaRDoorAx0
namespace Go.Proofs.YtabgnbbljjohdaaRDoor.A
open Go.RowKit Go.Proofs.YtabgnbbljjohdaaRDoorW.PrintWords Go.Proofs.YtabgnbbljjohdaaRDoorW.PrintLast Go.Proofs.YtabgnbbljjohdaaRDoorW.PrintMore
attribute [local go_sem] max2_int min2_int max_two min_two max_three min_three max_four min_four   -- for this text's walks alone
set_option linter.unusedVariables false
set_option linter.unusedSimpArgs false

/-! ### wire_character: function 50 -/
def wire_row (i : Int) : Int × Int × Int × Int × Int := RowTab.getD i.toNat (0, 0, 0, 0, 0)
def wlo (i : Int) : Int := (wire_row i).1
def whi (i : Int) : Int := (wire_row i).2.1
def wlo2 (i : Int) : Int := (wire_row i).2.2.1
def whi2 (i : Int) : Int := (wire_row i).2.2.2.1
def wmore (i : Int) : Int := (wire_row i).2.2.2.2
def wire_character.l1 : Nat → ByteArray → Int → Int → Int → Option (Int)
  | 0, _, _, _, _ => none
  | k + 1, s, at_, i, j => if j ≤ wmore i then (if 0 ≤ wrap64 (at_ + j) then (if wrap64 (at_ + j) < (s.size : Int) then (if bt s (wrap64 (at_ + j)) < (if j = 1 then wlo2 i else 128) then some 0 else (if bt s (wrap64 (at_ + j)) > (if j = 1 then whi2 i else 191) then some 0 else wire_character.l1 k s at_ i (wrap64 (j + 1)))) else none) else none) else some (1 + wmore i)
def wire_character.l0 : Nat → ByteArray → Int → Int → Option (Int)
  | 0, _, _, _ => none
  | k + 1, s, at_, i => if i < 9 then (if 0 ≤ at_ then (if at_ < (s.size : Int) then (if bt s at_ < wlo i then wire_character.l0 k s at_ (wrap64 (i + 1)) else (if bt s at_ > whi i then wire_character.l0 k s at_ (wrap64 (i + 1)) else (if wrap64 (at_ + wmore i) ≥ (s.size : Int) then some 0 else wire_character.l1 k s at_ i 1))) else none) else none) else some 0
def wire_character.f (k : Nat) (a0 : ByteArray) (a1 : Int) : Option (Int) := wire_character.l0 k a0 a1 0
theorem wire_character.mono_l : ∀ k, (∀ y0 y1 y2, LeO (wire_character.l0 k y0 y1 y2) (wire_character.l0 (k + 1) y0 y1 y2)) ∧ (∀ y0 y1 y2 y3, LeO (wire_character.l1 k y0 y1 y2 y3) (wire_character.l1 (k + 1) y0 y1 y2 y3))
  | 0 => ⟨fun _ _ _ r h => by simp [wire_character.l0] at h, fun _ _ _ _ r h => by simp [wire_character.l1] at h⟩
  | k + 1 => by
    obtain ⟨ih0, ih1⟩ := wire_character.mono_l k
    refine ⟨?_, ?_⟩
    · intro y0 y1 y2
      unfold wire_character.l0
      repeat' first
      | (with_reducible exact ih0 _ _ _)
      | (with_reducible exact ih1 _ _ _ _)
      | (with_reducible exact LeO.refl _)
      | (with_reducible exact LeO.none _)
      | (with_reducible refine LeO.ite ?_ ?_)
    · intro y0 y1 y2 y3
      unfold wire_character.l1
      repeat' first
      | (with_reducible exact ih1 _ _ _ _)
      | (with_reducible exact LeO.refl _)
      | (with_reducible exact LeO.none _)
      | (with_reducible refine LeO.ite ?_ ?_)
theorem wire_character.mono : ∀ a0 a1 k, LeO (wire_character.f k a0 a1) (wire_character.f (k + 1) a0 a1) := by
  intro a0 a1 k
  exact (wire_character.mono_l k).1 _ _ _
theorem wire_index0 (w : World) : (Instr.index 117 (.agg RowCells) (.int .i64 0)).run Tryd.prog w = .ok (.agg #[.int .u8 (wlo 0), .int .u8 (whi 0), .int .u8 (wlo2 0), .int .u8 (whi2 0), .int .i64 (wmore 0)]) w := by kernel_rfl
theorem wire_index1 (w : World) : (Instr.index 117 (.agg RowCells) (.int .i64 1)).run Tryd.prog w = .ok (.agg #[.int .u8 (wlo 1), .int .u8 (whi 1), .int .u8 (wlo2 1), .int .u8 (whi2 1), .int .i64 (wmore 1)]) w := by kernel_rfl
theorem wire_index2 (w : World) : (Instr.index 117 (.agg RowCells) (.int .i64 2)).run Tryd.prog w = .ok (.agg #[.int .u8 (wlo 2), .int .u8 (whi 2), .int .u8 (wlo2 2), .int .u8 (whi2 2), .int .i64 (wmore 2)]) w := by kernel_rfl
theorem wire_index3 (w : World) : (Instr.index 117 (.agg RowCells) (.int .i64 3)).run Tryd.prog w = .ok (.agg #[.int .u8 (wlo 3), .int .u8 (whi 3), .int .u8 (wlo2 3), .int .u8 (whi2 3), .int .i64 (wmore 3)]) w := by kernel_rfl
theorem wire_index4 (w : World) : (Instr.index 117 (.agg RowCells) (.int .i64 4)).run Tryd.prog w = .ok (.agg #[.int .u8 (wlo 4), .int .u8 (whi 4), .int .u8 (wlo2 4), .int .u8 (whi2 4), .int .i64 (wmore 4)]) w := by kernel_rfl
theorem wire_index5 (w : World) : (Instr.index 117 (.agg RowCells) (.int .i64 5)).run Tryd.prog w = .ok (.agg #[.int .u8 (wlo 5), .int .u8 (whi 5), .int .u8 (wlo2 5), .int .u8 (whi2 5), .int .i64 (wmore 5)]) w := by kernel_rfl
theorem wire_index6 (w : World) : (Instr.index 117 (.agg RowCells) (.int .i64 6)).run Tryd.prog w = .ok (.agg #[.int .u8 (wlo 6), .int .u8 (whi 6), .int .u8 (wlo2 6), .int .u8 (whi2 6), .int .i64 (wmore 6)]) w := by kernel_rfl
theorem wire_index7 (w : World) : (Instr.index 117 (.agg RowCells) (.int .i64 7)).run Tryd.prog w = .ok (.agg #[.int .u8 (wlo 7), .int .u8 (whi 7), .int .u8 (wlo2 7), .int .u8 (whi2 7), .int .i64 (wmore 7)]) w := by kernel_rfl
theorem wire_index8 (w : World) : (Instr.index 117 (.agg RowCells) (.int .i64 8)).run Tryd.prog w = .ok (.agg #[.int .u8 (wlo 8), .int .u8 (whi 8), .int .u8 (wlo2 8), .int .u8 (whi2 8), .int .i64 (wmore 8)]) w := by kernel_rfl
/-- One row of the table, as the index gives it. -/
theorem wire_index (w : World) (i : Int) (h0 : 0 ≤ i) (h1 : i < 9) : (Instr.index 117 (.agg RowCells) (.int .i64 i)).run Tryd.prog w = .ok (.agg #[.int .u8 (wlo i), .int .u8 (whi i), .int .u8 (wlo2 i), .int .u8 (whi2 i), .int .i64 (wmore i)]) w := by
  rcases (show i = 0 ∨ i = 1 ∨ i = 2 ∨ i = 3 ∨ i = 4 ∨ i = 5 ∨ i = 6 ∨ i = 7 ∨ i = 8 by omega) with rfl | rfl | rfl | rfl | rfl | rfl | rfl | rfl | rfl
  · exact wire_index0 w
  · exact wire_index1 w
  · exact wire_index2 w
  · exact wire_index3 w
  · exact wire_index4 w
  · exact wire_index5 w
  · exact wire_index6 w
  · exact wire_index7 w
  · exact wire_index8 w
theorem wmore_range (i : Int) : 0 ≤ wmore i ∧ wmore i ≤ 3 := by
  unfold wmore wire_row
  rcases (show i.toNat = 0 ∨ i.toNat = 1 ∨ i.toNat = 2 ∨ i.toNat = 3 ∨ i.toNat = 4 ∨ i.toNat = 5 ∨ i.toNat = 6 ∨ i.toNat = 7 ∨ i.toNat = 8 ∨ 9 ≤ i.toNat by omega) with h | h | h | h | h | h | h | h | h | h
  all_goals first | (rw [h]; decide) | skip
  rw [List.getD_eq_getElem?_getD, List.getElem?_eq_none (by simpa [RowTab] using h)]
  decide
theorem w64ish (x : Int) (h0 : 0 ≤ x) (h1 : x < 9) : Aside0 (wrap64 (x + 1) = x + 1) := ⟨by unfold wrap64; omega⟩
set_option maxHeartbeats 4000000 in
set_option maxRecDepth 100000 in
theorem wire_character.calls (k : Nat) (a0 : ByteArray) (a1 : Int) (r : Int) (w : World) (h : wire_character.f k a0 a1 = some r) (hL : LaidW w) :
    Calls Tryd.prog 50 #[.string a0, .int .i64 a1] w fun e w' => e = .returned (.int .i64 r) ∧ Below w.heap.size w w' := by
  obtain ⟨⟨tg, fr, hg⟩, _⟩ := hL
  have HB := Aside0.mk (Below.refl w.heap.size w)
  have H' := Aside0.mk h
  clear h
  unfold wire_character.f at H'
  go_enter Tryd.func50, Tryd.ntmps50
  go_wp2_with (refine wpList_load_row rfl 117 _ rfl 0 rfl tg _ fr _ hg Tryd.underlying117 rfl (by kernel_rfl) ?_)
  clear hg
  go_loopg [11] k (fun kq v11 w' => ∃ x11 : Int, v11 = .int .i64 x11 ∧ Aside0 (0 ≤ x11) ∧ Aside0 (wire_character.l0 kq a0 a1 x11 = some r) ∧ Aside0 (Below w.heap.size w w'))
  case atStart => exact ⟨0, rfl, ⟨by omega⟩, H', HB⟩
  case round =>
    clear H' HB
    obtain ⟨x11, rfl, H0, HA, HB⟩ := hrel
    cases gk with
    | zero => exact absurd HA.out (by simp [wire_character.l0])
    | succ k1 =>
      have H := HA.out
      clear HA
      simp only [wire_character.l0] at H
      by_cases c1 : x11 < 9
      · rw [if_pos c1] at H
        have c1b : decide (x11 < 9) = true := decide_eq_true c1
        have hix := fun W => wire_index W x11 H0.out c1
        have hw := w64ish x11 H0.out c1
        rw [hw.out] at H
        clear c1
        by_cases c2 : 0 ≤ a1
        · rw [if_pos c2] at H
          have c2b : decide (0 ≤ a1) = true := decide_eq_true c2
          by_cases c3 : a1 < (a0.size : Int)
          · rw [if_pos c3] at H
            have c3b : decide (a1 < (a0.size : Int)) = true := decide_eq_true c3
            have hx := bt_at a0 a1
            have p4 := eq_true c2
            have q4 := eq_true c3
            have hm := wmore_range x11
            have hm1 := hm.1
            have hm2 := hm.2
            clear c3 c2 hm
            by_cases c4 : bt a0 a1 < wlo x11
            · rw [if_pos c4] at H
              have c4b : decide (bt a0 a1 < wlo x11) = true := decide_eq_true c4
              clear c4
              have H' := Aside0.mk H
              clear H
              go_wp2
              go_quiet (fail)
              go_wp2
              go_roundg k1
              case measure => omega
              case rel => exact ⟨x11 + 1, congrArg (Value.int .i64) hw.out, ⟨by have := H0.out; omega⟩, H', ⟨by repeat (first | (with_reducible first | exact HB.out | apply below_alloc | apply pw_below_drewN | apply below_drew1) | exact HB.out)⟩⟩
            · rw [if_neg c4] at H
              have c4b : decide (bt a0 a1 < wlo x11) = false := decide_eq_false c4
              clear c4
              by_cases c5 : bt a0 a1 > whi x11
              · rw [if_pos c5] at H
                have c5b : decide (whi x11 < bt a0 a1) = true := decide_eq_true c5
                clear c5
                have H' := Aside0.mk H
                clear H
                go_wp2
                go_quiet (fail)
                go_wp2
                go_roundg k1
                case measure => omega
                case rel => exact ⟨x11 + 1, congrArg (Value.int .i64) hw.out, ⟨by have := H0.out; omega⟩, H', ⟨by repeat (first | (with_reducible first | exact HB.out | apply below_alloc | apply pw_below_drewN | apply below_drew1) | exact HB.out)⟩⟩
              · rw [if_neg c5] at H
                have c5b : decide (whi x11 < bt a0 a1) = false := decide_eq_false c5
                clear c5
                by_cases c6 : wrap64 (a1 + wmore x11) ≥ (a0.size : Int)
                · rw [if_pos c6] at H
                  have c6b : decide ((a0.size : Int) ≤ wrap64 (a1 + wmore x11)) = true := decide_eq_true c6
                  clear c6
                  obtain rfl := Option.some.inj H
                  go_wp2
                  go_quiet (fail)
                  go_wp2
                  go_ret
                  exact ⟨rfl, by repeat (first | (with_reducible first | exact HB.out | apply below_alloc | apply pw_below_drewN | apply below_drew1) | exact HB.out)⟩
                · rw [if_neg c6] at H
                  have c6b : decide ((a0.size : Int) ≤ wrap64 (a1 + wmore x11)) = false := decide_eq_false c6
                  clear c6
                  have H' := Aside0.mk H
                  clear H
                  go_wp2
                  go_quiet (fail)
                  go_wp2
                  obtain ⟨wo, rfl⟩ : ∃ wo : World, wo = wr := ⟨_, rfl⟩
                  go_loopg [7, 8, 9] k1 (fun kq v7 _ _ w' => ∃ x7 : Int, v7 = .int .i64 x7 ∧ Aside0 (1 ≤ x7) ∧ Aside0 (wire_character.l1 kq a0 a1 x11 x7 = some r) ∧ ∃ n : Nat, w' = (wo.alloc (.cells #[.int .u8 (wlo x11), .int .u8 (whi x11), .int .u8 (wlo2 x11), .int .u8 (whi2 x11), .int .i64 (wmore x11)] 116)).drewN n)
                  case atStart => exact ⟨1, rfl, ⟨by omega⟩, H', _, rfl⟩
                  case round =>
                    clear H' c2b c3b c4b c5b c6b hx p4 q4
                    obtain ⟨x7, rfl, H1, HA, nw, rfl⟩ := hrel
                    have H := HA.out
                    clear HA
                    cases gk with
                    | zero => simp [wire_character.l1] at H
                    | succ k2 =>
                    simp only [wire_character.l1] at H
                    by_cases d1 : x7 ≤ wmore x11
                    · rw [if_pos d1] at H
                      have d1b : decide (x7 ≤ wmore x11) = true := decide_eq_true d1
                      have hw7 : Aside0 (wrap64 (x7 + 1) = x7 + 1) := ⟨by have := H1.out; unfold wrap64; omega⟩
                      rw [hw7.out] at H
                      clear d1
                      by_cases d2 : 0 ≤ wrap64 (a1 + x7)
                      · rw [if_pos d2] at H
                        by_cases d3 : wrap64 (a1 + x7) < (a0.size : Int)
                        · rw [if_pos d3] at H
                          have hx := bt_at a0 (wrap64 (a1 + x7))
                          have p4 := eq_true d2
                          have q4 := eq_true d3
                          clear d2 d3
                          by_cases d4 : x7 = 1
                          · rw [if_pos d4, if_pos d4] at H
                            have d4b : (x7 == 1) = true := beq_iff_eq.mpr d4
                            clear d4
                            by_cases d5 : bt a0 (wrap64 (a1 + x7)) < wlo2 x11
                            · rw [if_pos d5] at H
                              have d5b : decide (bt a0 (wrap64 (a1 + x7)) < wlo2 x11) = true := decide_eq_true d5
                              clear d5
                              obtain rfl := Option.some.inj H
                              go_wp2
                              go_quiet (fail)
                              go_wp2
                              go_ret
                              exact ⟨rfl, by repeat (first | (with_reducible first | exact HB.out | apply below_alloc | apply pw_below_drewN | apply below_drew1) | exact HB.out)⟩
                            · rw [if_neg d5] at H
                              have d5b : decide (bt a0 (wrap64 (a1 + x7)) < wlo2 x11) = false := decide_eq_false d5
                              clear d5
                              by_cases d6 : bt a0 (wrap64 (a1 + x7)) > whi2 x11
                              · rw [if_pos d6] at H
                                have d6b : decide (whi2 x11 < bt a0 (wrap64 (a1 + x7))) = true := decide_eq_true d6
                                clear d6
                                obtain rfl := Option.some.inj H
                                go_wp2
                                go_quiet (fail)
                                go_wp2
                                go_ret
                                exact ⟨rfl, by repeat (first | (with_reducible first | exact HB.out | apply below_alloc | apply pw_below_drewN | apply below_drew1) | exact HB.out)⟩
                              · rw [if_neg d6] at H
                                have d6b : decide (whi2 x11 < bt a0 (wrap64 (a1 + x7))) = false := decide_eq_false d6
                                clear d6
                                have H' := Aside0.mk H
                                clear H
                                go_wp2
                                go_quiet (fail)
                                go_wp2
                                go_roundg k2
                                case measure => omega
                                case rel => exact ⟨x7 + 1, congrArg (Value.int .i64) hw7.out, ⟨by have := H1.out; omega⟩, H', _, rfl⟩
                          · rw [if_neg d4, if_neg d4] at H
                            have d4b : (x7 == 1) = false := beq_eq_false_iff_ne.mpr d4
                            clear d4
                            by_cases d5 : bt a0 (wrap64 (a1 + x7)) < 128
                            · rw [if_pos d5] at H
                              have d5b : decide (bt a0 (wrap64 (a1 + x7)) < 128) = true := decide_eq_true d5
                              clear d5
                              obtain rfl := Option.some.inj H
                              go_wp2
                              go_ret
                              exact ⟨rfl, by repeat (first | (with_reducible first | exact HB.out | apply below_alloc | apply pw_below_drewN | apply below_drew1) | exact HB.out)⟩
                            · rw [if_neg d5] at H
                              have d5b : decide (bt a0 (wrap64 (a1 + x7)) < 128) = false := decide_eq_false d5
                              clear d5
                              by_cases d6 : bt a0 (wrap64 (a1 + x7)) > 191
                              · rw [if_pos d6] at H
                                have d6b : decide (191 < bt a0 (wrap64 (a1 + x7))) = true := decide_eq_true d6
                                clear d6
                                obtain rfl := Option.some.inj H
                                go_wp2
                                go_ret
                                exact ⟨rfl, by repeat (first | (with_reducible first | exact HB.out | apply below_alloc | apply pw_below_drewN | apply below_drew1) | exact HB.out)⟩
                              · rw [if_neg d6] at H
                                have d6b : decide (191 < bt a0 (wrap64 (a1 + x7))) = false := decide_eq_false d6
                                clear d6
                                have H' := Aside0.mk H
                                clear H
                                go_wp2
                                go_roundg k2
                                case measure => omega
                                case rel => exact ⟨x7 + 1, congrArg (Value.int .i64) hw7.out, ⟨by have := H1.out; omega⟩, H', _, rfl⟩
                        · rw [if_neg d3] at H
                          cases H
                      · rw [if_neg d2] at H
                        cases H
                    · rw [if_neg d1] at H
                      have d1b : decide (x7 ≤ wmore x11) = false := decide_eq_false d1
                      clear d1
                      obtain rfl := Option.some.inj H
                      go_wp2
                      go_ret
                      exact ⟨rfl, by repeat (first | (with_reducible first | exact HB.out | apply below_alloc | apply pw_below_drewN | apply below_drew1) | exact HB.out)⟩
          · rw [if_neg c3] at H
            cases H
        · rw [if_neg c2] at H
          cases H
      · rw [if_neg c1] at H
        have c1b : decide (x11 < 9) = false := decide_eq_false c1
        clear c1
        obtain rfl := Option.some.inj H
        go_wp2
        go_ret
        exact ⟨rfl, by repeat (first | (with_reducible first | exact HB.out | apply below_alloc | apply pw_below_drewN | apply below_drew1) | exact HB.out)⟩

/-! ### wire_Utf8: function 29 -/
def wire_Utf8.l0 : Nat → ByteArray → Int → Option (Int)
  | 0, _, _ => none
  | k + 1, x0, x3 => if x3 < (x0.size : Int) then ((wire_character.f k x0 x3).bind fun t101 => (if t101 = 0 then (some x3) else (wire_Utf8.l0 k x0 (wrap64 (x3 + t101))))) else (some (-1))
def wire_Utf8.f (k : Nat) (a0 : ByteArray) : Option (Int) := wire_Utf8.l0 k a0 0
theorem wire_Utf8.mono_l : ∀ k, (∀ y0 y1, LeO (wire_Utf8.l0 k y0 y1) (wire_Utf8.l0 (k + 1) y0 y1))
  | 0 => fun _ _ r h => by simp [wire_Utf8.l0] at h
  | k + 1 => by
    have ih0 := wire_Utf8.mono_l k
    · intro y0 y1
      unfold wire_Utf8.l0
      repeat' first
      | (with_reducible exact ih0 _ _)
      | (with_reducible exact wire_character.mono _ _ _)
      | (with_reducible exact LeO.refl _)
      | (with_reducible exact LeO.none _)
      | (with_reducible refine LeO.ite ?_ ?_)
      | (with_reducible refine LeO.bind ?_ (fun _ => ?_))
      | exact ih0 _ _
      | exact wire_character.mono _ _ _
      | exact LeO.none _
      | refine LeO.ite ?_ ?_
      | refine LeO.bind ?_ (fun _ => ?_)
theorem wire_Utf8.mono : ∀ a0 k, LeO (wire_Utf8.f k a0) (wire_Utf8.f (k + 1) a0) := by
  intro a0 k
  have ih0 := wire_Utf8.mono_l k
  unfold wire_Utf8.f
  repeat' first
      | (with_reducible exact ih0 _ _)
      | (with_reducible exact wire_character.mono _ _ _)
      | (with_reducible exact LeO.refl _)
      | (with_reducible exact LeO.none _)
      | (with_reducible refine LeO.ite ?_ ?_)
      | (with_reducible refine LeO.bind ?_ (fun _ => ?_))
      | exact ih0 _ _
      | exact wire_character.mono _ _ _
      | exact LeO.none _
      | refine LeO.ite ?_ ?_
      | refine LeO.bind ?_ (fun _ => ?_)
set_option maxHeartbeats 8000000 in
set_option maxRecDepth 100000 in
theorem wire_Utf8.calls (k : Nat) (a0 : ByteArray) (r : Int) (w : World) (h : wire_Utf8.f k a0 = some r) (hL : LaidW w) :
    Calls Tryd.prog 29 #[.string a0] w fun e w' => e = .returned (.int .i64 r) ∧ Below w.heap.size w w' := by
  have HL := Aside0.mk hL
  clear hL
  have HB := Aside0.mk (Below.refl w.heap.size w)
  have H : (wire_Utf8.l0 k a0 0) = some r := h
  clear h
  have H' := Aside0.mk H
  clear H
  go_enter Tryd.func29, Tryd.ntmps29
  go_wp2
  go_loopg [3] k (fun kq v3 w' => ∃ (x3_1 : Int), v3 = .int .i64 x3_1 ∧ Aside0 (wire_Utf8.l0 kq a0 x3_1 = some r) ∧ Aside0 (kq ≤ k) ∧ Aside0 (Below w.heap.size w w'))
  case atStart => exact ⟨(0), (by first | rfl | (simp; done) | (simp [*]; done)), H', ⟨Nat.le_refl _⟩, ⟨by repeat (first | (with_reducible first | exact HB.out | apply below_alloc | apply pw_below_drewN | apply below_drew1) | exact HB.out)⟩⟩
  case round =>
    clear H'
    obtain ⟨x3_1, rfl, HA, HK1, HB⟩ := hrel
    cases gk with
    | zero => exact absurd HA.out (by simp [wire_Utf8.l0])
    | succ k1 =>
      have H := HA.out
      clear HA
      simp only [wire_Utf8.l0] at H
      by_cases c2 : x3_1 < (a0.size : Int)
      · rw [if_pos c2] at H
        have c2b0 : decide (x3_1 < (a0.size : Int)) = true := decide_eq_true c2
        clear c2
        replace H := Option.bind_eq_some_iff.mp H
        obtain ⟨t101, A30, H⟩ := H
        replace H : (if t101 = 0 then (some x3_1) else (wire_Utf8.l0 k1 a0 (wrap64 (x3_1 + t101)))) = some r := H
        have A3 := Aside0.mk A30
        clear A30
        by_cases c4 : t101 = 0
        · rw [if_pos c4] at H
          have c4b0 : (t101 == 0) = true := beq_iff_eq.mpr c4
          have c4b1 : (t101 != 0) = false := bne_eq_false_iff_eq.mpr c4
          clear c4
          obtain rfl := Option.some.inj H
          go_wp2_with (first | ((with_reducible refine gate_callee (f := 50) rfl ?_); refine goesL_ (some 11) rfl rfl Tryd.func50 (by kernel_rfl) rfl #[.string a0, .int .i64 x3_1] rfl (by (try simp only [List.map_toArray, List.map_cons, List.map_nil]); first | done | rfl | (simp only [List.length_drop, List.length_take]; rfl)) ?_; (with_reducible refine (wire_character.calls k1 a0 x3_1 t101 _ A3.out (LaidW.below HL.out (by repeat (first | (with_reducible first | exact HB.out | apply below_alloc | apply pw_below_drewN | apply below_drew1) | exact HB.out | exact Below.refl _ _)))).mono ?_); rintro e w5 ⟨rfl, hb⟩; refine ⟨_, rfl, ?_⟩; have n0_ := Aside0.mk (below_step (by repeat (first | (with_reducible first | exact HB.out | apply below_alloc | apply pw_below_drewN | apply below_drew1) | exact HB.out)) hb); clear HB; have HB := n0_; clear n0_; (try clear hb); (try clear hb2); (try clear hk); (try clear hi)))
          go_ret
          exact ⟨by first | rfl | (simp [errW_none, errW_some] <;> rfl) | (simp [*, errW_none, errW_some] <;> rfl), by repeat (first | (with_reducible first | exact HB.out | apply below_alloc | apply pw_below_drewN | apply below_drew1) | exact HB.out)⟩
        · rw [if_neg c4] at H
          have c4b0 : (t101 == 0) = false := beq_eq_false_iff_ne.mpr c4
          have c4b1 : (t101 != 0) = true := bne_iff_ne.mpr c4
          have H' := Aside0.mk H
          clear H
          go_wp2_with (first | ((with_reducible refine gate_callee (f := 50) rfl ?_); refine goesL_ (some 11) rfl rfl Tryd.func50 (by kernel_rfl) rfl #[.string a0, .int .i64 x3_1] rfl (by (try simp only [List.map_toArray, List.map_cons, List.map_nil]); first | done | rfl | (simp only [List.length_drop, List.length_take]; rfl)) ?_; (with_reducible refine (wire_character.calls k1 a0 x3_1 t101 _ A3.out (LaidW.below HL.out (by repeat (first | (with_reducible first | exact HB.out | apply below_alloc | apply pw_below_drewN | apply below_drew1) | exact HB.out | exact Below.refl _ _)))).mono ?_); rintro e w6 ⟨rfl, hb⟩; refine ⟨_, rfl, ?_⟩; have n0_ := Aside0.mk (below_step (by repeat (first | (with_reducible first | exact HB.out | apply below_alloc | apply pw_below_drewN | apply below_drew1) | exact HB.out)) hb); clear HB; have HB := n0_; clear n0_; (try clear hb); (try clear hb2); (try clear hk); (try clear hi)))
          go_roundg k1
          case measure => have := HK1.out; omega
          case rel => exact ⟨(wrap64 (x3_1 + t101)), (by first | rfl | (simp; done) | (simp [*]; done)), H', ⟨by have := HK1.out; omega⟩, ⟨by repeat (first | (with_reducible first | exact HB.out | apply below_alloc | apply pw_below_drewN | apply below_drew1) | exact HB.out)⟩⟩
      · rw [if_neg c2] at H
        have c2b0 : decide (x3_1 < (a0.size : Int)) = false := decide_eq_false c2
        clear c2
        obtain rfl := Option.some.inj H
        go_wp2
        go_ret
        exact ⟨by first | rfl | (simp [errW_none, errW_some] <;> rfl) | (simp [*, errW_none, errW_some] <;> rfl), by repeat (first | (with_reducible first | exact HB.out | apply below_alloc | apply pw_below_drewN | apply below_drew1) | exact HB.out)⟩

/-! ### strings_IndexByte: function 65 -/
def strings_IndexByte.f (a0 : ByteArray) (a1 : Int) : Option (Int) := some (Lib.indexByte a0.data.toList a1.toNat.toUInt8)
theorem strings_IndexByte.calls (a0 : ByteArray) (a1 : Int) (r : Int) (w : World) (h : strings_IndexByte.f a0 a1 = some r) :
    Calls Tryd.prog 65 #[.string a0, .int .u8 a1] w fun e w' => e = .returned (.int .i64 r) ∧ Drawn0 w w' := by
  obtain rfl := Option.some.inj h
  exact (Tryd.strings_IndexByte a0 a1 w).mono fun e w' ⟨h1, h2⟩ => ⟨h1, h2 ▸ Drawn0.refl _⟩

end Go.Proofs.YtabgnbbljjohdaaRDoor.A
