-- THIS SESSION'S TEXT: written by plugprint.py out of the translation, with contracts proved by hand.
import Derived.Test.YtabgnbbljjohdaaRDoorAx
namespace Go.Proofs.YtabgnbbljjohdaaRDoor.A
open Go.RowKit Go.Proofs.YtabgnbbljjohdaaRDoorW.PrintWords Go.Proofs.YtabgnbbljjohdaaRDoorW.PrintLast Go.Proofs.YtabgnbbljjohdaaRDoorW.PrintMore
attribute [local go_sem] max2_int min2_int max_two min_two max_three min_three max_four min_four   -- for this text's walks alone
set_option linter.unusedVariables false
set_option linter.unusedSimpArgs false

/-! ### scan_written: function 34 -/
def scan_written.f (a0 : Int) : Option (ByteArray) := if a0 = 92 then (some (⟨#[92, 92]⟩ : ByteArray)) else (if a0 = 34 then (some (⟨#[92, 34]⟩ : ByteArray)) else (if a0 = 10 then (some (⟨#[92, 110]⟩ : ByteArray)) else (if a0 = 13 then (some (⟨#[92, 114]⟩ : ByteArray)) else (if a0 = 9 then (some (⟨#[92, 116]⟩ : ByteArray)) else (some (⟨#[]⟩ : ByteArray))))))
set_option maxHeartbeats 8000000 in
set_option maxRecDepth 100000 in
theorem scan_written.calls (a0 : Int) (r : ByteArray) (w : World) (h : scan_written.f a0 = some r) :
    Calls Tryd.prog 34 #[.int .u8 a0] w fun e w' => e = .returned (.string r) ∧ Drawn0 w w' := by
  have H : (if a0 = 92 then (some (⟨#[92, 92]⟩ : ByteArray)) else (if a0 = 34 then (some (⟨#[92, 34]⟩ : ByteArray)) else (if a0 = 10 then (some (⟨#[92, 110]⟩ : ByteArray)) else (if a0 = 13 then (some (⟨#[92, 114]⟩ : ByteArray)) else (if a0 = 9 then (some (⟨#[92, 116]⟩ : ByteArray)) else (some (⟨#[]⟩ : ByteArray))))))) = some r := h
  clear h
  by_cases c2 : a0 = 92
  · rw [if_pos c2] at H
    have c2b0 : (a0 == 92) = true := beq_iff_eq.mpr c2
    have c2b1 : (a0 != 92) = false := bne_eq_false_iff_eq.mpr c2
    clear c2
    obtain rfl := Option.some.inj H
    go_enter Tryd.func34, Tryd.ntmps34
    go_wp2
    go_ret
    exact ⟨by first | rfl | (simp; done) | (simp [*]; done), by repeat (first | exact Drawn0.refl _ | apply Drawn0.step)⟩
  · rw [if_neg c2] at H
    have c2b0 : (a0 == 92) = false := beq_eq_false_iff_ne.mpr c2
    have c2b1 : (a0 != 92) = true := bne_iff_ne.mpr c2
    by_cases c3 : a0 = 34
    · rw [if_pos c3] at H
      have c3b0 : (a0 == 34) = true := beq_iff_eq.mpr c3
      have c3b1 : (a0 != 34) = false := bne_eq_false_iff_eq.mpr c3
      clear c3
      obtain rfl := Option.some.inj H
      go_enter Tryd.func34, Tryd.ntmps34
      go_wp2
      go_ret
      exact ⟨by first | rfl | (simp; done) | (simp [*]; done), by repeat (first | exact Drawn0.refl _ | apply Drawn0.step)⟩
    · rw [if_neg c3] at H
      have c3b0 : (a0 == 34) = false := beq_eq_false_iff_ne.mpr c3
      have c3b1 : (a0 != 34) = true := bne_iff_ne.mpr c3
      by_cases c4 : a0 = 10
      · rw [if_pos c4] at H
        have c4b0 : (a0 == 10) = true := beq_iff_eq.mpr c4
        have c4b1 : (a0 != 10) = false := bne_eq_false_iff_eq.mpr c4
        clear c4
        obtain rfl := Option.some.inj H
        go_enter Tryd.func34, Tryd.ntmps34
        go_wp2
        go_ret
        exact ⟨by first | rfl | (simp; done) | (simp [*]; done), by repeat (first | exact Drawn0.refl _ | apply Drawn0.step)⟩
      · rw [if_neg c4] at H
        have c4b0 : (a0 == 10) = false := beq_eq_false_iff_ne.mpr c4
        have c4b1 : (a0 != 10) = true := bne_iff_ne.mpr c4
        by_cases c5 : a0 = 13
        · rw [if_pos c5] at H
          have c5b0 : (a0 == 13) = true := beq_iff_eq.mpr c5
          have c5b1 : (a0 != 13) = false := bne_eq_false_iff_eq.mpr c5
          clear c5
          obtain rfl := Option.some.inj H
          go_enter Tryd.func34, Tryd.ntmps34
          go_wp2
          go_ret
          exact ⟨by first | rfl | (simp; done) | (simp [*]; done), by repeat (first | exact Drawn0.refl _ | apply Drawn0.step)⟩
        · rw [if_neg c5] at H
          have c5b0 : (a0 == 13) = false := beq_eq_false_iff_ne.mpr c5
          have c5b1 : (a0 != 13) = true := bne_iff_ne.mpr c5
          by_cases c6 : a0 = 9
          · rw [if_pos c6] at H
            have c6b0 : (a0 == 9) = true := beq_iff_eq.mpr c6
            have c6b1 : (a0 != 9) = false := bne_eq_false_iff_eq.mpr c6
            clear c6
            obtain rfl := Option.some.inj H
            go_enter Tryd.func34, Tryd.ntmps34
            go_wp2
            go_ret
            exact ⟨by first | rfl | (simp; done) | (simp [*]; done), by repeat (first | exact Drawn0.refl _ | apply Drawn0.step)⟩
          · rw [if_neg c6] at H
            have c6b0 : (a0 == 9) = false := beq_eq_false_iff_ne.mpr c6
            have c6b1 : (a0 != 9) = true := bne_iff_ne.mpr c6
            obtain rfl := Option.some.inj H
            go_enter Tryd.func34, Tryd.ntmps34
            go_wp2
            go_ret
            exact ⟨by first | rfl | (simp; done) | (simp [*]; done), by repeat (first | exact Drawn0.refl _ | apply Drawn0.step)⟩

-- NOT PRINTED: function 35 (strings_Builder_WriteString)

/-! ### scan_character: function 36 -/
mutual
def scan_character.l0 : Nat → ByteArray → Int → Option (Int)
  | 0, _, _ => none
  | k + 1, x0, x3 => if x3 ≤ 4 then (scan_character.j1 k x0 x3 (decide (x3 ≤ (x0.size : Int)))) else (scan_character.j1 k x0 x3 false)
def scan_character.j1 : Nat → ByteArray → Int → Bool → Option (Int)
  | 0, _, _, _ => none
  | k + 1, x0, x3, x11 => if x11 = true then (if 0 ≤ x3 then (if x3 ≤ (x0.size : Int) then ((wire_Utf8.f k (x0.extract 0 (x3 : Int).toNat)).bind fun t213 => (if t213 < 0 then (some x3) else (scan_character.l0 k x0 (wrap64 (x3 + 1))))) else (none)) else (none)) else (some 0)
end
def scan_character.f (k : Nat) (a0 : ByteArray) : Option (Int) := scan_character.l0 k a0 2
theorem scan_character.mono_l : ∀ k, (∀ y0 y1, LeO (scan_character.l0 k y0 y1) (scan_character.l0 (k + 1) y0 y1)) ∧ (∀ y0 y1 y2, LeO (scan_character.j1 k y0 y1 y2) (scan_character.j1 (k + 1) y0 y1 y2))
  | 0 => ⟨fun _ _ r h => by simp [scan_character.l0] at h, fun _ _ _ r h => by simp [scan_character.j1] at h⟩
  | k + 1 => by
    obtain ⟨ih0, ih1⟩ := scan_character.mono_l k
    refine ⟨?_, ?_⟩
    · intro y0 y1
      unfold scan_character.l0
      repeat' first
      | (with_reducible exact ih0 _ _)
      | (with_reducible exact ih1 _ _ _)
      | (with_reducible exact wire_Utf8.mono _ _)
      | (with_reducible exact LeO.refl _)
      | (with_reducible exact LeO.none _)
      | (with_reducible refine LeO.ite ?_ ?_)
      | (with_reducible refine LeO.bind ?_ (fun _ => ?_))
      | exact ih0 _ _
      | exact ih1 _ _ _
      | exact wire_Utf8.mono _ _
      | exact LeO.none _
      | refine LeO.ite ?_ ?_
      | refine LeO.bind ?_ (fun _ => ?_)
    · intro y0 y1 y2
      unfold scan_character.j1
      repeat' first
      | (with_reducible exact ih0 _ _)
      | (with_reducible exact ih1 _ _ _)
      | (with_reducible exact wire_Utf8.mono _ _)
      | (with_reducible exact LeO.refl _)
      | (with_reducible exact LeO.none _)
      | (with_reducible refine LeO.ite ?_ ?_)
      | (with_reducible refine LeO.bind ?_ (fun _ => ?_))
      | exact ih0 _ _
      | exact ih1 _ _ _
      | exact wire_Utf8.mono _ _
      | exact LeO.none _
      | refine LeO.ite ?_ ?_
      | refine LeO.bind ?_ (fun _ => ?_)
theorem scan_character.mono : ∀ a0 k, LeO (scan_character.f k a0) (scan_character.f (k + 1) a0) := by
  intro a0 k
  obtain ⟨ih0, ih1⟩ := scan_character.mono_l k
  unfold scan_character.f
  repeat' first
      | (with_reducible exact ih0 _ _)
      | (with_reducible exact ih1 _ _ _)
      | (with_reducible exact wire_Utf8.mono _ _)
      | (with_reducible exact LeO.refl _)
      | (with_reducible exact LeO.none _)
      | (with_reducible refine LeO.ite ?_ ?_)
      | (with_reducible refine LeO.bind ?_ (fun _ => ?_))
      | exact ih0 _ _
      | exact ih1 _ _ _
      | exact wire_Utf8.mono _ _
      | exact LeO.none _
      | refine LeO.ite ?_ ?_
      | refine LeO.bind ?_ (fun _ => ?_)
set_option maxHeartbeats 8000000 in
set_option maxRecDepth 100000 in
theorem scan_character.calls (k : Nat) (a0 : ByteArray) (r : Int) (w : World) (h : scan_character.f k a0 = some r) (hL : LaidW w) :
    Calls Tryd.prog 36 #[.string a0] w fun e w' => e = .returned (.int .i64 r) ∧ Below w.heap.size w w' := by
  have HL := Aside0.mk hL
  clear hL
  have HB := Aside0.mk (Below.refl w.heap.size w)
  have H : (scan_character.l0 k a0 2) = some r := h
  clear h
  have H' := Aside0.mk H
  clear H
  go_enter Tryd.func36, Tryd.ntmps36
  go_wp2
  go_loopg [3] k (fun kq v3 w' => ∃ (x3_1 : Int), v3 = .int .i64 x3_1 ∧ Aside0 (scan_character.l0 kq a0 x3_1 = some r) ∧ Aside0 (kq ≤ k) ∧ Aside0 (Below w.heap.size w w'))
  case atStart => exact ⟨(2), (by first | rfl | (simp; done) | (simp [*]; done)), H', ⟨Nat.le_refl _⟩, ⟨by repeat (first | (with_reducible first | exact HB.out | apply below_alloc | apply pw_below_drewN | apply below_drew1) | exact HB.out)⟩⟩
  case round =>
    clear H'
    obtain ⟨x3_1, rfl, HA, HK1, HB⟩ := hrel
    cases gk with
    | zero => exact absurd HA.out (by simp [scan_character.l0])
    | succ k1 =>
      have H := HA.out
      clear HA
      simp only [scan_character.l0] at H
      have HC2 := Aside0.mk H
      clear H
      go_upto_region 2 with (fail)
      go_cut [11] (fun v11 wc => ∃ (kq : Nat) (x11_1 : Bool), v11 = .bool x11_1 ∧ Aside0 (scan_character.j1 kq a0 x3_1 x11_1 = some r) ∧ Aside0 (kq ≤ k1) ∧ Aside0 (Below w.heap.size w wc))
      case first =>
        have H := HC2.out
        clear HC2
        by_cases c3 : x3_1 ≤ 4
        · rw [if_pos c3] at H
          have c3b0 : decide (x3_1 ≤ 4) = true := decide_eq_true c3
          clear c3
          (first | rw [c3b0] | (simp only [i64_w, i32_w]; rw [c3b0]) | skip)
          have H' := Aside0.mk H
          clear H
          go_wp2
          go_meet
          case rel => exact ⟨_, (decide (x3_1 ≤ (a0.size : Int))), (by first | rfl | (simp; done) | (simp [*]; done)), H', ⟨by have := HK1.out; first | omega | exact Nat.le_refl _⟩, ⟨by repeat (first | (with_reducible first | exact HB.out | apply below_alloc | apply pw_below_drewN | apply below_drew1) | exact HB.out)⟩⟩
        · rw [if_neg c3] at H
          have c3b0 : decide (x3_1 ≤ 4) = false := decide_eq_false c3
          clear c3
          (first | rw [c3b0] | (simp only [i64_w, i32_w]; rw [c3b0]) | skip)
          have H' := Aside0.mk H
          clear H
          go_wp2
          go_meet
          case rel => exact ⟨_, (false), (by first | rfl | (simp; done) | (simp [*]; done)), H', ⟨by have := HK1.out; first | omega | exact Nat.le_refl _⟩, ⟨by repeat (first | (with_reducible first | exact HB.out | apply below_alloc | apply pw_below_drewN | apply below_drew1) | exact HB.out)⟩⟩
      case rest =>
        clear HC2
        try clear p2
        try clear c3
        try clear c3b0
        obtain ⟨kq, x11_1, rfl, HA, HJ1, HB⟩ := hcut
        cases kq with
        | zero => exact absurd HA.out (by simp [scan_character.j1])
        | succ kj1 =>
          have H := HA.out
          clear HA
          simp only [scan_character.j1] at H
          by_cases c4 : x11_1 = true
          · subst c4
            have H1 : (if 0 ≤ x3_1 then (if x3_1 ≤ (a0.size : Int) then ((wire_Utf8.f kj1 (a0.extract 0 (x3_1 : Int).toNat)).bind fun t213 => (if t213 < 0 then (some x3_1) else (scan_character.l0 kj1 a0 (wrap64 (x3_1 + 1))))) else (none)) else (none)) = some r := by rw [if_pos rfl] at H; exact H
            clear H
            have H := H1
            clear H1
            by_cases c5 : 0 ≤ x3_1
            · rw [if_pos c5] at H
              have c5b0 := eq_true c5
              have c5b1 : decide (0 ≤ x3_1) = true := decide_eq_true c5
              clear c5
              by_cases c6 : x3_1 ≤ (a0.size : Int)
              · rw [if_pos c6] at H
                have c6b0 := eq_true c6
                have c6b1 : decide (x3_1 ≤ (a0.size : Int)) = true := decide_eq_true c6
                clear c6
                replace H := Option.bind_eq_some_iff.mp H
                obtain ⟨t213, A70, H⟩ := H
                replace H : (if t213 < 0 then (some x3_1) else (scan_character.l0 kj1 a0 (wrap64 (x3_1 + 1)))) = some r := H
                have A7 := Aside0.mk A70
                clear A70
                by_cases c8 : t213 < 0
                · rw [if_pos c8] at H
                  have c8b0 : decide (t213 < 0) = true := decide_eq_true c8
                  clear c8
                  obtain rfl := Option.some.inj H
                  go_wp2_with (first | ((with_reducible refine gate_callee (f := 29) rfl ?_); refine goesL_ (some 17) rfl rfl Tryd.func29 (by kernel_rfl) rfl #[.string (a0.extract 0 (x3_1 : Int).toNat)] rfl (by (try simp only [List.map_toArray, List.map_cons, List.map_nil]); first | done | rfl | (simp only [List.length_drop, List.length_take]; rfl)) ?_; (with_reducible refine (wire_Utf8.calls kj1 (a0.extract 0 (x3_1 : Int).toNat) t213 _ A7.out (LaidW.below HL.out (by repeat (first | (with_reducible first | exact HB.out | apply below_alloc | apply pw_below_drewN | apply below_drew1) | exact HB.out | exact Below.refl _ _)))).mono ?_); rintro e w9 ⟨rfl, hb⟩; refine ⟨_, rfl, ?_⟩; have n0_ := Aside0.mk (below_step (by repeat (first | (with_reducible first | exact HB.out | apply below_alloc | apply pw_below_drewN | apply below_drew1) | exact HB.out)) hb); clear HB; have HB := n0_; clear n0_; (try clear hb); (try clear hb2); (try clear hk); (try clear hi)))
                  go_ret
                  exact ⟨by first | rfl | (simp [errW_none, errW_some] <;> rfl) | (simp [*, errW_none, errW_some] <;> rfl), by repeat (first | (with_reducible first | exact HB.out | apply below_alloc | apply pw_below_drewN | apply below_drew1) | exact HB.out)⟩
                · rw [if_neg c8] at H
                  have c8b0 : decide (t213 < 0) = false := decide_eq_false c8
                  clear c8
                  have H' := Aside0.mk H
                  clear H
                  go_wp2_with (first | ((with_reducible refine gate_callee (f := 29) rfl ?_); refine goesL_ (some 17) rfl rfl Tryd.func29 (by kernel_rfl) rfl #[.string (a0.extract 0 (x3_1 : Int).toNat)] rfl (by (try simp only [List.map_toArray, List.map_cons, List.map_nil]); first | done | rfl | (simp only [List.length_drop, List.length_take]; rfl)) ?_; (with_reducible refine (wire_Utf8.calls kj1 (a0.extract 0 (x3_1 : Int).toNat) t213 _ A7.out (LaidW.below HL.out (by repeat (first | (with_reducible first | exact HB.out | apply below_alloc | apply pw_below_drewN | apply below_drew1) | exact HB.out | exact Below.refl _ _)))).mono ?_); rintro e w10 ⟨rfl, hb⟩; refine ⟨_, rfl, ?_⟩; have n0_ := Aside0.mk (below_step (by repeat (first | (with_reducible first | exact HB.out | apply below_alloc | apply pw_below_drewN | apply below_drew1) | exact HB.out)) hb); clear HB; have HB := n0_; clear n0_; (try clear hb); (try clear hb2); (try clear hk); (try clear hi)))
                  go_roundg kj1
                  case measure => have := HK1.out; have := HJ1.out; omega
                  case rel => exact ⟨(wrap64 (x3_1 + 1)), (by first | rfl | (simp; done) | (simp [*]; done)), H', ⟨by have := HK1.out; have := HJ1.out; omega⟩, ⟨by repeat (first | (with_reducible first | exact HB.out | apply below_alloc | apply pw_below_drewN | apply below_drew1) | exact HB.out)⟩⟩
              · rw [if_neg c6] at H
                exact absurd H (by simp)
            · rw [if_neg c5] at H
              exact absurd H (by simp)
          · replace c4 := Bool.eq_false_iff.mpr c4
            subst c4
            have H1 : (some 0) = some r := by rw [if_neg (show ¬ (false = true) by decide)] at H; exact H
            clear H
            have H := H1
            clear H1
            obtain rfl := Option.some.inj H
            go_wp2
            go_ret
            exact ⟨by first | rfl | (simp [errW_none, errW_some] <;> rfl) | (simp [*, errW_none, errW_some] <;> rfl), by repeat (first | (with_reducible first | exact HB.out | apply below_alloc | apply pw_below_drewN | apply below_drew1) | exact HB.out)⟩

-- NOT PRINTED: function 37 (strings_Builder_Write)

-- NOT PRINTED: function 38 (strings_Builder_String)

/-! ### scan_Quote: function 15 -/
def scan_oct (c : Int) : List UInt8 := [92, UInt8.ofNat ((48 + c / 64) % 256).toNat, UInt8.ofNat ((48 + Go.bits .and .u8 (c / 8) 7) % 256).toNat, UInt8.ofNat ((48 + Go.bits .and .u8 c 7) % 256).toNat]
def scan_Quote.l0 : Nat → ByteArray → List UInt8 → Option ByteArray
  | 0, _, _ => none
  | k + 1, s, l => if l.length + s.size + 8 ≤ 140737488355328 then (if s.toList = ([] : List UInt8) then some ⟨(l ++ [34]).toArray⟩ else (if 0 < (s.size : Int) then ((scan_written.f (bt s 0)).bind fun t => if t.toList = ([] : List UInt8) then (if bt s 0 ≥ 128 then ((scan_character.f k s).bind fun n => if n > 0 then (if n ≤ (s.size : Int) then scan_Quote.l0 k (s.extract n.toNat s.size) (l ++ (s.extract 0 n.toNat).data.toList) else none) else scan_Quote.l0 k (s.extract 1 s.size) (l ++ scan_oct (bt s 0))) else if bt s 0 < 32 then scan_Quote.l0 k (s.extract 1 s.size) (l ++ scan_oct (bt s 0)) else if bt s 0 ≥ 127 then scan_Quote.l0 k (s.extract 1 s.size) (l ++ scan_oct (bt s 0)) else scan_Quote.l0 k (s.extract 1 s.size) (l ++ [UInt8.ofNat (bt s 0).toNat]))
      else if t.size ≤ 8 then scan_Quote.l0 k (s.extract 1 s.size) (l ++ t.data.toList) else none) else none)) else none
def scan_Quote.f (k : Nat) (a0 : ByteArray) : Option ByteArray := scan_Quote.l0 k a0 [34]
theorem scan_Quote.mono_l : ∀ k, (∀ y0 y1, LeO (scan_Quote.l0 k y0 y1) (scan_Quote.l0 (k + 1) y0 y1))
  | 0 => fun _ _ r h => by simp [scan_Quote.l0] at h
  | k + 1 => by
    have ih0 := scan_Quote.mono_l k
    intro y0 y1
    unfold scan_Quote.l0
    repeat' first
      | (with_reducible exact ih0 _ _)
      | (with_reducible exact scan_character.mono _ _)
      | (with_reducible exact LeO.refl _)
      | (with_reducible exact LeO.none _)
      | (with_reducible refine LeO.ite ?_ ?_)
      | (with_reducible refine LeO.bind ?_ (fun _ => ?_))
theorem scan_Quote.mono : ∀ a0 k, LeO (scan_Quote.f k a0) (scan_Quote.f (k + 1) a0) := fun a0 k => scan_Quote.mono_l k a0 [34]
theorem u8_back (v : Int) (h0 : 0 ≤ v) (h1 : v ≤ 255) : ((UInt8.ofNat v.toNat).toNat : Int) = v := by
  rw [UInt8.toNat_ofNat']
  omega
theorem bytes_one (l : List UInt8) (c : Int) (h0 : 0 ≤ c) (h1 : c ≤ 255) : Lib.byteCells l ++ [.int .u8 c] = Lib.byteCells (l ++ [UInt8.ofNat c.toNat]) := by
  simp only [Lib.byteCells, List.map_append, List.map_cons, List.map_nil, u8_back c h0 h1]
theorem bytes_34 (l : List UInt8) : Lib.byteCells l ++ [.int .u8 34] = Lib.byteCells (l ++ [34]) := bytes_one l 34 (by omega) (by omega)
theorem bytes_str (l : List UInt8) (s : ByteArray) : Lib.byteCells l ++ Lib.strCells s = Lib.byteCells (l ++ s.data.toList) := by
  simp only [Lib.byteCells, Lib.strCells, List.map_append]
theorem bytes_app (l m : List UInt8) : Lib.byteCells l ++ Lib.byteCells m = Lib.byteCells (l ++ m) := by
  simp only [Lib.byteCells, List.map_append]
theorem isB_below {B b : Nat} {bs : List Value} {w w' : World} (h : Lib.IsBuilderF 56 5 B b bs w) (k : Below w.heap.size w w') : Lib.IsBuilderF 56 5 B b bs w' := by
  have keep : ∀ i, i < w.heap.size → w'.heap[i]? = w.heap[i]? := fun i hi => k.block i hi
  have one : ∀ p, Lib.BuilderAtF 56 5 B b p bs w → Lib.BuilderAtF 56 5 B b p bs w' := by
    rintro p ⟨hB, v, hb, ⟨hl, hown⟩, hne⟩
    refine ⟨hB, v, (keep b (Array.getElem?_eq_some_iff.1 hb).1).trans hb, ⟨hl, ?_⟩, hne⟩
    rcases hown with h0 | ⟨g, cap, cur, fz, hv, hg0, hg, hr⟩
    · exact .inl h0
    · exact .inr ⟨g, cap, cur, fz, hv, hg0, (keep g (Array.getElem?_eq_some_iff.1 hg).1).trans hg, hr⟩
  rcases h with h | h
  · exact .inl (one _ h)
  · exact .inr (one _ h)
theorem isB_drewN {B b : Nat} {bs : List Value} {w : World} (h : Lib.IsBuilderF 56 5 B b bs w) (n : Nat) : Lib.IsBuilderF 56 5 B b bs (w.drewN n) :=
  isB_below h (pw_below_drewN (Below.refl _ _) n)
theorem bytes_oct (l : List UInt8) (c : Int) : Lib.byteCells l ++ [.int .u8 92, .int .u8 ((48 + c / 64) % 256), .int .u8 ((48 + Go.bits .and .u8 (c / 8) 7) % 256), .int .u8 ((48 + Go.bits .and .u8 c 7) % 256)] = Lib.byteCells (l ++ scan_oct c) := by
  simp only [scan_oct, Lib.byteCells, List.map_append, List.map_cons, List.map_nil]
  rw [u8_back _ (by omega) (by omega), u8_back _ (by omega) (by omega), u8_back _ (by omega) (by omega)]
  rfl
theorem isB_lt {B b : Nat} {bs : List Value} {w : World} (h : Lib.IsBuilderF 56 5 B b bs w) : b < w.heap.size := by
  rcases h with ⟨_, v, hb, _⟩ | ⟨_, v, hb, _⟩ <;> exact (Array.getElem?_eq_some_iff.1 hb).1
theorem isB_alloc {B b : Nat} {bs : List Value} {w : World} (h : Lib.IsBuilderF 56 5 B b bs w) (o : Obj) : Lib.IsBuilderF 56 5 B b bs (w.alloc o) :=
  isB_below h (below_alloc (Below.refl _ _) o)
/-- The four bytes of an escape by a number, written. -/
theorem write_oct (w0 W : World) (g : Nat) (hg : g = W.heap.size) (l : List UInt8) (c : Int) (hO : Lib.IsBuilderF 56 5 w0.heap.size w0.heap.size (Lib.byteCells l) W) (hB : Below w0.heap.size w0 W) (hlen : (Lib.byteCells l).length + 4 ≤ 140737488355328) :
    Calls Tryd.prog 37 #[.pointer (some ⟨w0.heap.size, 0, none⟩), .slice (some ⟨g, 0, none⟩) 4 4] (W.alloc (.cells #[.int .u8 92, .int .u8 ((48 + c / 64) % 256), .int .u8 ((48 + Go.bits .and .u8 (c / 8) 7) % 256), .int .u8 ((48 + Go.bits .and .u8 c 7) % 256)] 5))
      fun e w' => e = .returned (.tuple #[.int .i64 4, .nilIface]) ∧ (Lib.IsBuilderF 56 5 w0.heap.size w0.heap.size (Lib.byteCells (l ++ scan_oct c)) w' ∧ Below w0.heap.size w0 w') := by
  subst hg
  have hlt := isB_lt hO
  refine (Bld.Write_k w0.heap.size w0.heap.size (Lib.byteCells l) W.heap.size [.int .u8 92, .int .u8 ((48 + c / 64) % 256), .int .u8 ((48 + Go.bits .and .u8 (c / 8) 7) % 256), .int .u8 ((48 + Go.bits .and .u8 c 7) % 256)] _ (isB_alloc hO _) (by simpa using hlen) (by simp; have := hB.size; omega) (fun j u hj => ?_) (by omega) (fun u hu => ?_) 4 rfl 4 rfl).mono ?_
  · match j, hj with
    | 0, hj => simp at hj; subst hj; simp
    | 1, hj => simp at hj; subst hj; simp
    | 2, hj => simp at hj; subst hj; simp
    | 3, hj => simp at hj; subst hj; simp
  · simp only [List.mem_cons, List.not_mem_nil, or_false] at hu
    rcases hu with rfl | rfl | rfl | rfl <;> rfl
  · rintro e w' ⟨he, hA, hb⟩
    rw [bytes_oct] at hA
    exact ⟨he, .inr hA, (hB.alloc hB.size _).trans hb⟩
set_option maxHeartbeats 8000000 in
set_option maxRecDepth 100000 in
theorem scan_Quote.calls (k : Nat) (a0 : ByteArray) (r : ByteArray) (w : World) (h : scan_Quote.f k a0 = some r) (hL : LaidW w) :
    Calls Tryd.prog 15 #[.string a0] w fun e w' => e = .returned (.string r) ∧ Below w.heap.size w w' := by
  have HL := Aside0.mk hL
  clear hL
  have H' := Aside0.mk h
  clear h
  go_enter Tryd.func15, Tryd.ntmps15
  go_wp2_with (go_at_call 33; refine (Bld.WriteByte_k w.heap.size w.heap.size [] 34 _ (Lib.IsBuilderF.of (Lib.fresh_isBuilder 56 5 w)) (by simp) (by simp)).mono ?_; rintro e w1 ⟨rfl, hA, hb, _⟩)
  have hA1 : Lib.IsBuilderF 56 5 w.heap.size w.heap.size (Lib.byteCells [34]) w1 := .inr hA
  have hb1 := (below_alloc (Below.refl w.heap.size w) _).trans hb
  clear hA hb
  go_loopg [0] k (fun kq v0 w' => ∃ (s : ByteArray) (l : List UInt8), v0 = .string s ∧ Aside0 (scan_Quote.l0 kq s l = some r) ∧ Aside0 (kq ≤ k) ∧ Aside0 (Lib.IsBuilderF 56 5 w.heap.size w.heap.size (Lib.byteCells l) w') ∧ Aside0 (Below w.heap.size w w'))
  case atStart => exact ⟨a0, [34], rfl, H', ⟨Nat.le_refl _⟩, ⟨hA1⟩, ⟨hb1⟩⟩
  case round =>
    clear H' hA1 hb1
    obtain ⟨s, l, rfl, HA, HK1, HO, HB⟩ := hrel
    cases gk with
    | zero => exact absurd HA.out (by simp [scan_Quote.l0])
    | succ k1 =>
      have H := HA.out
      clear HA
      simp only [scan_Quote.l0] at H
      by_cases c1 : l.length + s.size + 8 ≤ 140737488355328
      · rw [if_pos c1] at H
        have LM := Aside0.mk c1
        clear c1
        by_cases c2 : s.toList = ([] : List UInt8)
        · rw [if_pos c2] at H
          have c2b0 : (s.toList == ([] : List UInt8)) = true := beq_iff_eq.mpr c2
          have c2b1 : (s.toList != ([] : List UInt8)) = false := bne_eq_false_iff_eq.mpr c2
          clear c2
          obtain rfl := Option.some.inj H
          clear H
          have hlen := Aside0.mk (show (Lib.byteCells l).length + 1 ≤ 140737488355328 by rw [Lib.byteCells_length]; have := LM.out; omega)
          go_wp2_with (first | (go_at_call 33; refine (Bld.WriteByte_k w.heap.size w.heap.size (Lib.byteCells l) 34 _ HO.out hlen.out HB.out.size).mono ?_; rintro e w2 ⟨rfl, hA, hb, _⟩; have n0_ := Aside0.mk (show Lib.IsBuilderF 56 5 w.heap.size w.heap.size (Lib.byteCells (l ++ [34])) w2 from .inr (by rw [← bytes_34 l]; exact hA)); have n1_ := Aside0.mk (HB.out.trans hb); clear HO HB hA hb; have HO := n0_; have HB := n1_; clear n0_ n1_) | (go_at_call 38; refine (Tryd.Builder_String_any_k w.heap.size w.heap.size (l ++ [34]) _ HO.out HB.out.size).mono ?_; rintro e w3 ⟨rfl, hA, hb, _⟩; have n1_ := Aside0.mk (HB.out.trans hb); clear HO HB hA hb; have HB := n1_; clear n1_))
          go_ret
          exact ⟨rfl, HB.out⟩
        · rw [if_neg c2] at H
          have c2b0 : (s.toList == ([] : List UInt8)) = false := beq_eq_false_iff_ne.mpr c2
          have c2b1 : (s.toList != ([] : List UInt8)) = true := bne_iff_ne.mpr c2
          clear c2
          by_cases c3 : 0 < (s.size : Int)
          · rw [if_pos c3] at H
            have hx : ∀ h : 0 < s.size, ((s[0]'h).toNat : Int) = bt s 0 := bt_at s 0
            have q3 := eq_true c3
            have q3b : decide (0 < (s.size : Int)) = true := decide_eq_true c3
            have q3n := eq_true (show 0 < s.size by omega)
            have q1 := eq_true (show (1 : Int) ≤ (s.size : Int) by omega)
            have q1b : decide ((1 : Int) ≤ (s.size : Int)) = true := decide_eq_true (by omega)
            have q1n := eq_true (show 1 ≤ s.size by omega)
            have hs3 := Aside0.mk c3
            clear c3
            replace H := Option.bind_eq_some_iff.mp H
            obtain ⟨t, A1, H⟩ := H
            replace A1 := Aside0.mk A1
            by_cases c4 : t.toList = ([] : List UInt8)
            · rw [if_pos c4] at H
              have c4b0 : (t.toList == ([] : List UInt8)) = true := beq_iff_eq.mpr c4
              have c4b1 : (t.toList != ([] : List UInt8)) = false := bne_eq_false_iff_eq.mpr c4
              clear c4
              have HR := Aside0.mk (bt_range s 0)
              by_cases c5 : bt s 0 ≥ 128
              · rw [if_pos c5] at H
                have c5b0 : decide (128 ≤ bt s 0) = true := decide_eq_true c5
                have c5b1 : decide (bt s 0 < 32) = false := decide_eq_false (by omega)
                have c5b2 : decide (127 ≤ bt s 0) = true := decide_eq_true (by omega)
                clear c5
                replace H := Option.bind_eq_some_iff.mp H
                obtain ⟨n, A2, H⟩ := H
                replace A2 := Aside0.mk A2
                by_cases c6 : n > 0
                · rw [if_pos c6] at H
                  have c6b0 : decide (0 < n) = true := decide_eq_true c6
                  by_cases c7 : n ≤ (s.size : Int)
                  · rw [if_pos c7] at H
                    have H' := Aside0.mk H
                    have e0 := eq_true (show 0 ≤ n by omega)
                    have e0b : decide (0 ≤ n) = true := decide_eq_true (by omega)
                    have e1 := eq_true c7
                    have e1b : decide (n ≤ (s.size : Int)) = true := decide_eq_true c7
                    have hlen := Aside0.mk (show (Lib.byteCells l).length + (s.extract 0 n.toNat).size ≤ 140737488355328 by rw [Lib.byteCells_length, ByteArray.size_extract]; have := LM.out; omega)
                    clear H c6 c7
                    go_wp2_with (first | (go_at_call 34; refine (scan_written.calls (bt s 0) t _ A1.out).mono ?_; rintro e w2 ⟨rfl, ⟨nd, rfl⟩⟩; have n0_ := Aside0.mk (isB_drewN HO.out nd); have n1_ := Aside0.mk (pw_below_drewN HB.out nd); clear HO HB; have HO := n0_; have HB := n1_; clear n0_ n1_) | (go_at_call 36; refine (scan_character.calls k1 s n _ A2.out (LaidW.below HL.out HB.out)).mono ?_; rintro e w2 ⟨rfl, hb⟩; have n0_ := Aside0.mk (isB_below HO.out hb); have n1_ := Aside0.mk (below_then HB.out HB.out.size hb); clear HO HB hb; have HO := n0_; have HB := n1_; clear n0_ n1_) | (go_at_call 35; refine (Bld.WriteString_k w.heap.size w.heap.size (Lib.byteCells l) (s.extract 0 n.toNat) _ HO.out hlen.out HB.out.size).mono ?_; rintro e w3 ⟨rfl, hA, hb, _⟩; have n0_ := Aside0.mk (show Lib.IsBuilderF 56 5 w.heap.size w.heap.size (Lib.byteCells (l ++ (s.extract 0 n.toNat).data.toList)) w3 from .inr (by rw [← bytes_str l (s.extract 0 n.toNat)]; exact hA)); have n1_ := Aside0.mk (HB.out.trans hb); clear HO HB hA hb; have HO := n0_; have HB := n1_; clear n0_ n1_))
                    go_roundg k1
                    case measure => have := HK1.out; omega
                    case rel => exact ⟨_, _, rfl, H', ⟨by have := HK1.out; omega⟩, HO, HB⟩
                  · rw [if_neg c7] at H
                    cases H
                · rw [if_neg c6] at H
                  have c6b0 : decide (0 < n) = false := decide_eq_false c6
                  clear c6
                  have H' := Aside0.mk H
                  have hlen := Aside0.mk (show (Lib.byteCells l).length + 4 ≤ 140737488355328 by rw [Lib.byteCells_length]; have := LM.out; omega)
                  clear H
                  go_wp2_with (first | (go_at_call 34; refine (scan_written.calls (bt s 0) t _ A1.out).mono ?_; rintro e w2 ⟨rfl, ⟨nd, rfl⟩⟩; have n0_ := Aside0.mk (isB_drewN HO.out nd); have n1_ := Aside0.mk (pw_below_drewN HB.out nd); clear HO HB; have HO := n0_; have HB := n1_; clear n0_ n1_) | (go_at_call 36; refine (scan_character.calls k1 s n _ A2.out (LaidW.below HL.out HB.out)).mono ?_; rintro e w2 ⟨rfl, hb⟩; have n0_ := Aside0.mk (isB_below HO.out hb); have n1_ := Aside0.mk (below_then HB.out HB.out.size hb); clear HO HB hb; have HO := n0_; have HB := n1_; clear n0_ n1_) | (go_at_call 37; refine (write_oct w _ _ (by simp) l (bt s 0) HO.out HB.out hlen.out).mono ?_; rintro e w3 ⟨rfl, hA, hb⟩; have n0_ := Aside0.mk hA; have n1_ := Aside0.mk hb; clear HO HB hA hb; have HO := n0_; have HB := n1_; clear n0_ n1_))
                  go_roundg k1
                  case measure => have := HK1.out; omega
                  case rel => exact ⟨_, _, rfl, H', ⟨by have := HK1.out; omega⟩, HO, HB⟩
              · rw [if_neg c5] at H
                have c5b0 : decide (128 ≤ bt s 0) = false := decide_eq_false c5
                by_cases c6 : bt s 0 < 32
                · rw [if_pos c6] at H
                  have c6b0 : decide (bt s 0 < 32) = true := decide_eq_true c6
                  clear c5 c6
                  have H' := Aside0.mk H
                  have hlen := Aside0.mk (show (Lib.byteCells l).length + 4 ≤ 140737488355328 by rw [Lib.byteCells_length]; have := LM.out; omega)
                  clear H
                  go_wp2_with (first | (go_at_call 34; refine (scan_written.calls (bt s 0) t _ A1.out).mono ?_; rintro e w2 ⟨rfl, ⟨nd, rfl⟩⟩; have n0_ := Aside0.mk (isB_drewN HO.out nd); have n1_ := Aside0.mk (pw_below_drewN HB.out nd); clear HO HB; have HO := n0_; have HB := n1_; clear n0_ n1_) | (go_at_call 37; refine (write_oct w _ _ (by simp) l (bt s 0) HO.out HB.out hlen.out).mono ?_; rintro e w3 ⟨rfl, hA, hb⟩; have n0_ := Aside0.mk hA; have n1_ := Aside0.mk hb; clear HO HB hA hb; have HO := n0_; have HB := n1_; clear n0_ n1_))
                  go_roundg k1
                  case measure => have := HK1.out; omega
                  case rel => exact ⟨_, _, rfl, H', ⟨by have := HK1.out; omega⟩, HO, HB⟩
                · rw [if_neg c6] at H
                  have c6b0 : decide (bt s 0 < 32) = false := decide_eq_false c6
                  by_cases c7 : bt s 0 ≥ 127
                  · rw [if_pos c7] at H
                    have c7b0 : decide (127 ≤ bt s 0) = true := decide_eq_true c7
                    clear c5 c6 c7
                    have H' := Aside0.mk H
                    have hlen := Aside0.mk (show (Lib.byteCells l).length + 4 ≤ 140737488355328 by rw [Lib.byteCells_length]; have := LM.out; omega)
                    clear H
                    go_wp2_with (first | (go_at_call 34; refine (scan_written.calls (bt s 0) t _ A1.out).mono ?_; rintro e w2 ⟨rfl, ⟨nd, rfl⟩⟩; have n0_ := Aside0.mk (isB_drewN HO.out nd); have n1_ := Aside0.mk (pw_below_drewN HB.out nd); clear HO HB; have HO := n0_; have HB := n1_; clear n0_ n1_) | (go_at_call 37; refine (write_oct w _ _ (by simp) l (bt s 0) HO.out HB.out hlen.out).mono ?_; rintro e w3 ⟨rfl, hA, hb⟩; have n0_ := Aside0.mk hA; have n1_ := Aside0.mk hb; clear HO HB hA hb; have HO := n0_; have HB := n1_; clear n0_ n1_))
                    go_roundg k1
                    case measure => have := HK1.out; omega
                    case rel => exact ⟨_, _, rfl, H', ⟨by have := HK1.out; omega⟩, HO, HB⟩
                  · rw [if_neg c7] at H
                    have c7b0 : decide (127 ≤ bt s 0) = false := decide_eq_false c7
                    have H' := Aside0.mk H
                    have hlen := Aside0.mk (show (Lib.byteCells l).length + 1 ≤ 140737488355328 by rw [Lib.byteCells_length]; have := LM.out; omega)
                    clear H c5 c6 c7
                    go_wp2_with (first | (go_at_call 34; refine (scan_written.calls (bt s 0) t _ A1.out).mono ?_; rintro e w2 ⟨rfl, ⟨nd, rfl⟩⟩; have n0_ := Aside0.mk (isB_drewN HO.out nd); have n1_ := Aside0.mk (pw_below_drewN HB.out nd); clear HO HB; have HO := n0_; have HB := n1_; clear n0_ n1_) | (go_at_call 33; refine (Bld.WriteByte_k w.heap.size w.heap.size (Lib.byteCells l) (bt s 0) _ HO.out hlen.out HB.out.size).mono ?_; rintro e w3 ⟨rfl, hA, hb, _⟩; have n0_ := Aside0.mk (show Lib.IsBuilderF 56 5 w.heap.size w.heap.size (Lib.byteCells (l ++ [UInt8.ofNat (bt s 0).toNat])) w3 from .inr (by rw [← bytes_one l (bt s 0) HR.out.1 HR.out.2]; exact hA)); have n1_ := Aside0.mk (HB.out.trans hb); clear HO HB hA hb; have HO := n0_; have HB := n1_; clear n0_ n1_))
                    go_roundg k1
                    case measure => have := HK1.out; omega
                    case rel => exact ⟨_, _, rfl, H', ⟨by have := HK1.out; omega⟩, HO, HB⟩
            · rw [if_neg c4] at H
              have c4b0 : (t.toList == ([] : List UInt8)) = false := beq_eq_false_iff_ne.mpr c4
              have c4b1 : (t.toList != ([] : List UInt8)) = true := bne_iff_ne.mpr c4
              clear c4
              by_cases c5 : t.size ≤ 8
              · rw [if_pos c5] at H
                have H' := Aside0.mk H
                have hlen := Aside0.mk (show (Lib.byteCells l).length + t.size ≤ 140737488355328 by rw [Lib.byteCells_length]; have := LM.out; omega)
                clear H c5
                go_wp2_with (first | (go_at_call 34; refine (scan_written.calls (bt s 0) t _ A1.out).mono ?_; rintro e w2 ⟨rfl, ⟨nd, rfl⟩⟩; have n0_ := Aside0.mk (isB_drewN HO.out nd); have n1_ := Aside0.mk (pw_below_drewN HB.out nd); clear HO HB; have HO := n0_; have HB := n1_; clear n0_ n1_) | (go_at_call 35; refine (Bld.WriteString_k w.heap.size w.heap.size (Lib.byteCells l) t _ HO.out hlen.out HB.out.size).mono ?_; rintro e w3 ⟨rfl, hA, hb, _⟩; have n0_ := Aside0.mk (show Lib.IsBuilderF 56 5 w.heap.size w.heap.size (Lib.byteCells (l ++ t.data.toList)) w3 from .inr (by rw [← bytes_str l t]; exact hA)); have n1_ := Aside0.mk (HB.out.trans hb); clear HO HB hA hb; have HO := n0_; have HB := n1_; clear n0_ n1_))
                go_roundg k1
                case measure => have := HK1.out; omega
                case rel => exact ⟨_, _, rfl, H', ⟨by have := HK1.out; omega⟩, HO, HB⟩
              · rw [if_neg c5] at H
                cases H
          · rw [if_neg c3] at H
            cases H
      · rw [if_neg c1] at H
        cases H

end Go.Proofs.YtabgnbbljjohdaaRDoor.A
