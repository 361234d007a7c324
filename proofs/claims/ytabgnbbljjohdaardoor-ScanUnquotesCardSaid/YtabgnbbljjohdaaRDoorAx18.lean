-- THIS SESSION'S TEXT: written by plugprint.py out of the translation, with contracts proved by hand.
import Derived.Test.YtabgnbbljjohdaaRDoorAx0
import Derived.Test.YtabgnbbljjohdaaRDoorAx7
import Derived.Test.YtabgnbbljjohdaaRDoorAx17
namespace Go.Proofs.YtabgnbbljjohdaaRDoor.A
open Go.RowKit Go.Proofs.YtabgnbbljjohdaaRDoorW.PrintWords Go.Proofs.YtabgnbbljjohdaaRDoorW.PrintLast Go.Proofs.YtabgnbbljjohdaaRDoorW.PrintMore
attribute [local go_sem] max2_int min2_int max_two min_two max_three min_three max_four min_four   -- for this text's walks alone
set_option linter.unusedVariables false
set_option linter.unusedSimpArgs false

/-! ### sigilref4_Quote: function 16 -/
mutual
def sigilref4_Quote.l0 : Nat → ByteArray → List Int → Int → Option (ByteArray)
  | 0, _, _, _ => none
  | k + 1, x0, x3, x4 => if x4 < (x0.size : Int) then (if 0 ≤ x4 then ((sigilref4_follow.f k x0 x4).bind fun t197 => (if (bt x0 x4) = 92 then (sigilref4_Quote.j1 k x0 x3 x4 (bt x0 x4) t197 true) else (sigilref4_Quote.j1 k x0 x3 x4 (bt x0 x4) t197 ((bt x0 x4) == 34)))) else (none)) else (if 1 + (strOfNums x3).size ≤ 9223372036854775807 then (if ((⟨#[34]⟩ : ByteArray) ++ (strOfNums x3)).size + 1 ≤ 9223372036854775807 then (some (((⟨#[34]⟩ : ByteArray) ++ (strOfNums x3)) ++ (⟨#[34]⟩ : ByteArray))) else (none)) else (none))
def sigilref4_Quote.j1 : Nat → ByteArray → List Int → Int → Int → Int → Bool → Option (ByteArray)
  | 0, _, _, _, _, _, _ => none
  | k + 1, x0, x3, x4, x5, x6, x25 => if x25 = true then ((some (([92, x5] : List Int) : List Int)).bind fun y198 => (if x3.length + y198.length < 140737488355328 then (sigilref4_Quote.l0 k x0 (x3 ++ y198) (wrap64 (x4 + x6))) else (none))) else (if x5 = 10 then ((some (([92, 110] : List Int) : List Int)).bind fun y204 => (if x3.length + y204.length < 140737488355328 then (sigilref4_Quote.l0 k x0 (x3 ++ y204) (wrap64 (x4 + x6))) else (none))) else (if x5 = 13 then ((some (([92, 114] : List Int) : List Int)).bind fun y210 => (if x3.length + y210.length < 140737488355328 then (sigilref4_Quote.l0 k x0 (x3 ++ y210) (wrap64 (x4 + x6))) else (none))) else (if x5 = 9 then ((some (([92, 116] : List Int) : List Int)).bind fun y216 => (if x3.length + y216.length < 140737488355328 then (sigilref4_Quote.l0 k x0 (x3 ++ y216) (wrap64 (x4 + x6))) else (none))) else (if x5 < 32 then ((sigilref4_octal.f x5).bind fun t222 => (if x3.length + t222.size < 140737488355328 then (sigilref4_Quote.l0 k x0 (x3 ++ bytesOf t222) (wrap64 (x4 + 1))) else (none))) else (if x5 = 127 then ((sigilref4_octal.f x5).bind fun t226 => (if x3.length + t226.size < 140737488355328 then (sigilref4_Quote.l0 k x0 (x3 ++ bytesOf t226) (wrap64 (x4 + 1))) else (none))) else (if x6 = 0 then ((sigilref4_octal.f x5).bind fun t230 => (if x3.length + t230.size < 140737488355328 then (sigilref4_Quote.l0 k x0 (x3 ++ bytesOf t230) (wrap64 (x4 + 1))) else (none))) else (if 0 ≤ x4 then (if x4 ≤ (wrap64 (x4 + x6)) then (if (wrap64 (x4 + x6)) ≤ (x0.size : Int) then (if x3.length + (x0.extract (x4 : Int).toNat ((wrap64 (x4 + x6)) : Int).toNat).size < 140737488355328 then (sigilref4_Quote.l0 k x0 (x3 ++ bytesOf (x0.extract (x4 : Int).toNat ((wrap64 (x4 + x6)) : Int).toNat)) (wrap64 (x4 + x6))) else (none)) else (none)) else (none)) else (none))))))))
end
def sigilref4_Quote.f (k : Nat) (a0 : ByteArray) : Option (ByteArray) := sigilref4_Quote.l0 k a0 ([] : List Int) 0
theorem sigilref4_Quote.mono_l : ∀ k, (∀ y0 y1 y2, LeO (sigilref4_Quote.l0 k y0 y1 y2) (sigilref4_Quote.l0 (k + 1) y0 y1 y2)) ∧ (∀ y0 y1 y2 y3 y4 y5, LeO (sigilref4_Quote.j1 k y0 y1 y2 y3 y4 y5) (sigilref4_Quote.j1 (k + 1) y0 y1 y2 y3 y4 y5))
  | 0 => ⟨fun _ _ _ r h => by simp [sigilref4_Quote.l0] at h, fun _ _ _ _ _ _ r h => by simp [sigilref4_Quote.j1] at h⟩
  | k + 1 => by
    obtain ⟨ih0, ih1⟩ := sigilref4_Quote.mono_l k
    refine ⟨?_, ?_⟩
    · intro y0 y1 y2
      unfold sigilref4_Quote.l0
      repeat' first
      | (with_reducible exact ih0 _ _ _)
      | (with_reducible exact ih1 _ _ _ _ _ _)
      | (with_reducible exact sigilref4_follow.mono _ _ _)
      | (with_reducible exact LeO.refl _)
      | (with_reducible exact LeO.none _)
      | (with_reducible refine LeO.ite ?_ ?_)
      | (with_reducible refine LeO.bind ?_ (fun _ => ?_))
      | exact ih0 _ _ _
      | exact ih1 _ _ _ _ _ _
      | exact sigilref4_follow.mono _ _ _
      | exact LeO.none _
      | refine LeO.ite ?_ ?_
      | refine LeO.bind ?_ (fun _ => ?_)
    · intro y0 y1 y2 y3 y4 y5
      unfold sigilref4_Quote.j1
      repeat' first
      | (with_reducible exact ih0 _ _ _)
      | (with_reducible exact ih1 _ _ _ _ _ _)
      | (with_reducible exact sigilref4_follow.mono _ _ _)
      | (with_reducible exact LeO.refl _)
      | (with_reducible exact LeO.none _)
      | (with_reducible refine LeO.ite ?_ ?_)
      | (with_reducible refine LeO.bind ?_ (fun _ => ?_))
      | exact ih0 _ _ _
      | exact ih1 _ _ _ _ _ _
      | exact sigilref4_follow.mono _ _ _
      | exact LeO.none _
      | refine LeO.ite ?_ ?_
      | refine LeO.bind ?_ (fun _ => ?_)
theorem sigilref4_Quote.mono : ∀ a0 k, LeO (sigilref4_Quote.f k a0) (sigilref4_Quote.f (k + 1) a0) := by
  intro a0 k
  obtain ⟨ih0, ih1⟩ := sigilref4_Quote.mono_l k
  unfold sigilref4_Quote.f
  repeat' first
      | (with_reducible exact ih0 _ _ _)
      | (with_reducible exact ih1 _ _ _ _ _ _)
      | (with_reducible exact sigilref4_follow.mono _ _ _)
      | (with_reducible exact LeO.refl _)
      | (with_reducible exact LeO.none _)
      | (with_reducible refine LeO.ite ?_ ?_)
      | (with_reducible refine LeO.bind ?_ (fun _ => ?_))
      | exact ih0 _ _ _
      | exact ih1 _ _ _ _ _ _
      | exact sigilref4_follow.mono _ _ _
      | exact LeO.none _
      | refine LeO.ite ?_ ?_
      | refine LeO.bind ?_ (fun _ => ?_)
set_option maxHeartbeats 8000000 in
set_option maxRecDepth 100000 in
theorem sigilref4_Quote.calls (k : Nat) (a0 : ByteArray) (r : ByteArray) (w : World) (h : sigilref4_Quote.f k a0 = some r) :
    Calls Tryd.prog 16 #[.string a0] w fun e w' => e = .returned (.string r) ∧ Below w.heap.size w w' := by
  have HB := Aside0.mk (Below.refl w.heap.size w)
  have H : (sigilref4_Quote.l0 k a0 ([] : List Int) 0) = some r := h
  clear h
  have H' := Aside0.mk H
  clear H
  go_enter Tryd.func16, Tryd.ntmps16
  go_wp2
  go_loopg [3, 4] k (fun kq v3 v4 w' => ∃ (x3_1 : List Int) (x4_1 : Int), v4 = .int .i64 x4_1 ∧ Aside0 (sigilref4_Quote.l0 kq a0 x3_1 x4_1 = some r) ∧ Aside0 (kq ≤ k) ∧ Aside0 (Kd.R (Kd.int .u8) 5 w' w.heap.size (fun _ => True) v3 x3_1) ∧ Aside0 (Below w.heap.size w w'))
  case atStart => exact ⟨(([] : List Int)), (0), (by first | rfl | (simp; done) | (simp [*]; done)), H', ⟨Nat.le_refl _⟩, ⟨by first | exact Kd.R_nil _ _ _ _ _ | exact Kd.N_nil _ _ _ _ _ | exact Kd.V_nil _ _ _ _ _ | exact Kd.Q_nil _ _ _ _ _ | exact Kd.S_nil _ _ _ _ _⟩, ⟨by repeat (first | (with_reducible first | exact HB.out | apply below_alloc | apply pw_below_drewN | apply below_drew1) | exact HB.out)⟩⟩
  case round =>
    clear H'
    try clear c1
    obtain ⟨x3_1, x4_1, rfl, HA, HK1, HO_3, HB⟩ := hrel
    cases gk with
    | zero => exact absurd HA.out (by simp [sigilref4_Quote.l0])
    | succ k1 =>
      have H := HA.out
      clear HA
      simp only [sigilref4_Quote.l0] at H
      by_cases c2 : x4_1 < (a0.size : Int)
      · rw [if_pos c2] at H
        have c2b0 : decide (x4_1 < (a0.size : Int)) = true := decide_eq_true c2
        clear c2
        by_cases c3 : 0 ≤ x4_1
        · rw [if_pos c3] at H
          have c3b0 : decide (0 ≤ x4_1) = true := decide_eq_true c3
          clear c3
          replace H := Option.bind_eq_some_iff.mp H
          obtain ⟨t197, A50, H⟩ := H
          replace H : (if (bt a0 x4_1) = 92 then (sigilref4_Quote.j1 k1 a0 x3_1 x4_1 (bt a0 x4_1) t197 true) else (sigilref4_Quote.j1 k1 a0 x3_1 x4_1 (bt a0 x4_1) t197 ((bt a0 x4_1) == 34))) = some r := H
          have A5 := Aside0.mk A50
          clear A50
          have HC6 := Aside0.mk H
          clear H
          have p4 : 0 ≤ (x4_1 : Int) := of_decide_eq_true (by first | (with_reducible assumption) | assumption)
          have q4 : x4_1 < (a0.size : Int) := of_decide_eq_true (by first | (with_reducible assumption) | assumption)
          have hx4 := bt_at a0 x4_1
          replace p4 := eq_true p4
          replace q4 := eq_true q4
          go_upto_region 7 with (first | ((with_reducible refine gate_callee (f := 39) rfl ?_); refine goesL_ (some 16) rfl rfl Tryd.func39 (by kernel_rfl) rfl #[.string a0, .int .i64 x4_1] rfl (by (try simp only [List.map_toArray, List.map_cons, List.map_nil]); first | done | rfl | (simp only [List.length_drop, List.length_take]; rfl)) ?_; (with_reducible refine (sigilref4_follow.calls k1 a0 x4_1 t197 _ A5.out).mono ?_); rintro e w' ⟨rfl, ⟨nd, rfl⟩⟩; refine ⟨_, rfl, ?_⟩))
          (try simp only [Act.put, List.setIfInBounds_toArray, List.set_cons_zero, List.set_cons_succ])
          go_cut [25] (fun v25 wc => ∃ (kq : Nat) (x25_5 : Bool), v25 = .bool x25_5 ∧ Aside0 (sigilref4_Quote.j1 kq a0 x3_1 x4_1 (bt a0 x4_1) t197 x25_5 = some r) ∧ Aside0 (kq ≤ k1) ∧ Aside0 (Kd.R (Kd.int .u8) 5 wc w.heap.size (fun _ => True) u3 x3_1) ∧ Aside0 (Below w.heap.size w wc))
          case first =>
            have H := HC6.out
            clear HC6
            by_cases c7 : (bt a0 x4_1) = 92
            · rw [if_pos c7] at H
              have c7b0 : ((bt a0 x4_1) == 92) = true := beq_iff_eq.mpr c7
              have c7b1 : ((bt a0 x4_1) != 92) = false := bne_eq_false_iff_eq.mpr c7
              clear c7
              (first | rw [c7b0] | (simp only [i64_w, i32_w]; rw [c7b0]) | skip)
              have H' := Aside0.mk H
              clear H
              go_wp2
              go_meet
              case rel => exact ⟨_, (true), (by first | rfl | (simp; done) | (simp [*]; done)), H', ⟨by have := HK1.out; first | omega | exact Nat.le_refl _⟩, ⟨by (with_reducible repeat (first | apply Kd.R_alloc | apply Kd.R_drewN | apply Kd.R_drew)); exact HO_3.out⟩, ⟨by repeat (first | (with_reducible first | exact HB.out | apply below_alloc | apply pw_below_drewN | apply below_drew1) | exact HB.out)⟩⟩
            · rw [if_neg c7] at H
              have c7b0 : ((bt a0 x4_1) == 92) = false := beq_eq_false_iff_ne.mpr c7
              have c7b1 : ((bt a0 x4_1) != 92) = true := bne_iff_ne.mpr c7
              (first | rw [c7b0] | (simp only [i64_w, i32_w]; rw [c7b0]) | skip)
              have H' := Aside0.mk H
              clear H
              go_wp2
              go_meet
              case rel => exact ⟨_, (((bt a0 x4_1) == 34)), (by first | rfl | (simp; done) | (simp [*]; done)), H', ⟨by have := HK1.out; first | omega | exact Nat.le_refl _⟩, ⟨by (with_reducible repeat (first | apply Kd.R_alloc | apply Kd.R_drewN | apply Kd.R_drew)); exact HO_3.out⟩, ⟨by repeat (first | (with_reducible first | exact HB.out | apply below_alloc | apply pw_below_drewN | apply below_drew1) | exact HB.out)⟩⟩
          case rest =>
            clear HC6
            try clear c1
            try clear c2
            try clear c2b0
            try clear p2
            try clear c3
            try clear c3b0
            try clear p4
            try clear q4
            try clear hx4
            try clear c7
            try clear c7b0
            try clear c7b1
            try clear p4
            try clear q4
            obtain ⟨kq, x25_5, rfl, HA, HJ5, HO_3, HB⟩ := hcut
            cases kq with
            | zero => exact absurd HA.out (by simp [sigilref4_Quote.j1])
            | succ kj5 =>
              have H := HA.out
              clear HA
              simp only [sigilref4_Quote.j1] at H
              by_cases c8 : x25_5 = true
              · subst c8
                have H1 : ((some (([92, (bt a0 x4_1)] : List Int) : List Int)).bind fun y198 => (if x3_1.length + y198.length < 140737488355328 then (sigilref4_Quote.l0 kj5 a0 (x3_1 ++ y198) (wrap64 (x4_1 + t197))) else (none))) = some r := by rw [if_pos rfl] at H; exact H
                clear H
                have H := H1
                clear H1
                obtain ⟨y198, hy198⟩ : ∃ y_ : List Int, y_ = (([92, (bt a0 x4_1)] : List Int)) := ⟨_, rfl⟩
                replace H : (if x3_1.length + y198.length < 140737488355328 then (sigilref4_Quote.l0 kj5 a0 (x3_1 ++ y198) (wrap64 (x4_1 + t197))) else (none)) = some r := by first | (rw [hy198]; with_reducible exact H) | (have H2_ := (Option.bind_some _ _).symm.trans H; rw [hy198]; with_reducible exact H2_) | (have H2_ := (Option.bind_some _ _).symm.trans H; with_reducible exact H2_) | with_reducible exact H | (rw [hy198]; exact H) | exact H
                have Ny198 := Aside0.mk hy198
                clear hy198
                by_cases c9 : x3_1.length + y198.length < 140737488355328
                · rw [if_pos c9] at H
                  have LMc9 := Aside0.mk c9
                  clear c9
                  obtain ⟨y201, hy201⟩ : ∃ y_ : List Int, y_ = (x3_1 ++ y198) := ⟨_, rfl⟩
                  replace H : (sigilref4_Quote.l0 kj5 a0 y201 (wrap64 (x4_1 + t197))) = some r := by first | (rw [hy201]; with_reducible exact H) | (have H2_ := (Option.bind_some _ _).symm.trans H; rw [hy201]; with_reducible exact H2_) | (have H2_ := (Option.bind_some _ _).symm.trans H; with_reducible exact H2_) | with_reducible exact H | (rw [hy201]; exact H) | exact H
                  have Ny201 := Aside0.mk hy201
                  clear hy201
                  have H' := Aside0.mk H
                  clear H
                  go_wp2_with (first | ((with_reducible refine gate_dst (N := 34) rfl ?_); refine Kd.R_lit (Kd.int .u8) _ 5 ?hg (N := 34) ?hd (xs := ([92, (bt a0 x4_1)] : List Int)) (inner := [.int .u8 92, .int .u8 (bt a0 x4_1)]) (ok := fun _ => True) (okp := fun _ => True) ?hr ?hp (fun _ hk => hk) trivial (Below.refl _ _) (Nat.le_refl _) (by simp) ?_; (case hd => rfl); (case hg => rfl); (case hr => first | (go_simp; done) | (go_simp; rfl)); (case hp => exact (Reps.one (show Kd.M (Kd.int .u8) _ _ _ 92 [.int .u8 92] from rfl) (Reps.one (show Kd.M (Kd.int .u8) _ _ _ (bt a0 x4_1) [.int .u8 (bt a0 x4_1)] from rfl) (Reps.none _ _)))); intro v199 w10 ho11 hb hg_ hnew_; clear hg_ hnew_; (first | rw [← Ny198.out] at ho11 | (simp only [Int.reduceToNat] at ho11; rw [← Ny198.out] at ho11)); have n0_ := Aside0.mk (Kd.R_elder' (by (with_reducible repeat (first | apply Kd.R_alloc | apply Kd.R_drewN | apply Kd.R_drew)); exact HO_3.out) (Kd.R_base ho11) hb); have n1_ := Aside0.mk (Kd.R_lower (Kd.R_new' ho11 (Kd.R_lt (by (with_reducible repeat (first | apply Kd.R_alloc | apply Kd.R_drewN | apply Kd.R_drew)); exact HO_3.out))) (below_size (by repeat (first | (with_reducible first | exact HB.out | apply below_alloc | apply pw_below_drewN | apply below_drew1) | exact HB.out)))); have n2_ := Aside0.mk (below_step (by repeat (first | (with_reducible first | exact HB.out | apply below_alloc | apply pw_below_drewN | apply below_drew1) | exact HB.out)) hb); clear HO_3; clear HB; have HO_3 := n0_; have HO200 := n1_; have HB := n2_; clear n0_ n1_ n2_; clear hb ho11; obtain ⟨Ao13, co13, eo13⟩ := Kd.R_slice HO200.out; subst eo13) | ((with_reducible refine gate_builtin (b := .append) (xs := #[.tmp 32, .tmp 34]) rfl ?_); at_builtin; refine Kd.R_append_rows (Kd.int .u8) (w0 := w) w.heap.size rfl (.tmp 32) (.tmp 34) 33 5 (.int .u8 0) 1 rfl Tryd.underlying33 info5 rfl (by decide) (by omega) u3 x3_1 y198 _ _ _ (fun k_ => some k_ ≠ (.slice Ao13 y198.length co13 : Value).ownBlock) (fun _ => False) rfl rfl ?aO ?aR (fun _ _ h => h) (fun _ h => h.elim) ?aF ?aB ?aS ?aL ?_; (case aR => repeat (first | exact (Kd.R_reads' HO200.out).2.2 | (with_reducible refine Kd.C_alloc ?_ _) | (with_reducible refine Kd.C_drewN ?_ _) | (with_reducible refine Kd.C_drew ?_))); (case aB => exact (by repeat (first | (with_reducible first | exact HB.out | apply below_alloc | apply pw_below_drewN | apply below_drew1) | exact HB.out))); (case aF => exact (fun k_ hk => Kd.fresh' (Kd.R_lt (by (with_reducible repeat (first | apply Kd.R_alloc | apply Kd.R_drewN | apply Kd.R_drew)); exact HO200.out)) k_ hk)); (case aO => exact (by (with_reducible repeat (first | apply Kd.R_alloc | apply Kd.R_drewN | apply Kd.R_drew)); exact Kd.R_mono HO_3.out (fun _ hk => hk.2))); (case aS => exact (below_size (by repeat (first | (with_reducible first | exact HB.out | apply below_alloc | apply pw_below_drewN | apply below_drew1) | exact HB.out)))); (case aL => have := LMc9.out; omega); intro v202 w12 ho hb hg hat; rw [← Ny201.out] at ho; have n0_ := Aside0.mk (Kd.R_after (ok := (fun _ => True)) (by (with_reducible repeat (first | apply Kd.R_alloc | apply Kd.R_drewN | apply Kd.R_drew)); exact HO200.out) hg hat); have n1_ := Aside0.mk (hb); have n2_ := Aside0.mk (ho); clear HO200; clear HB; clear HO_3; have HO200 := n0_; have HB := n1_; have HO203 := n2_; clear n0_ n1_ n2_; clear ho hb hg hat))
                  go_roundg kj5
                  case measure => have := HK1.out; have := HJ5.out; omega
                  case rel => exact ⟨(y201), (wrap64 (x4_1 + t197)), (by first | rfl | (simp; done) | (simp [*]; done)), H', ⟨by have := HK1.out; have := HJ5.out; omega⟩, ⟨by (with_reducible repeat (first | apply Kd.R_alloc | apply Kd.R_drewN | apply Kd.R_drew)); exact Kd.R_mono HO203.out (fun _ hk => trivial)⟩, ⟨by repeat (first | (with_reducible first | exact HB.out | apply below_alloc | apply pw_below_drewN | apply below_drew1) | exact HB.out)⟩⟩
                · rw [if_neg c9] at H
                  exact absurd H (by simp)
              · replace c8 := Bool.eq_false_iff.mpr c8
                subst c8
                have H1 : (if (bt a0 x4_1) = 10 then ((some (([92, 110] : List Int) : List Int)).bind fun y204 => (if x3_1.length + y204.length < 140737488355328 then (sigilref4_Quote.l0 kj5 a0 (x3_1 ++ y204) (wrap64 (x4_1 + t197))) else (none))) else (if (bt a0 x4_1) = 13 then ((some (([92, 114] : List Int) : List Int)).bind fun y210 => (if x3_1.length + y210.length < 140737488355328 then (sigilref4_Quote.l0 kj5 a0 (x3_1 ++ y210) (wrap64 (x4_1 + t197))) else (none))) else (if (bt a0 x4_1) = 9 then ((some (([92, 116] : List Int) : List Int)).bind fun y216 => (if x3_1.length + y216.length < 140737488355328 then (sigilref4_Quote.l0 kj5 a0 (x3_1 ++ y216) (wrap64 (x4_1 + t197))) else (none))) else (if (bt a0 x4_1) < 32 then ((sigilref4_octal.f (bt a0 x4_1)).bind fun t222 => (if x3_1.length + t222.size < 140737488355328 then (sigilref4_Quote.l0 kj5 a0 (x3_1 ++ bytesOf t222) (wrap64 (x4_1 + 1))) else (none))) else (if (bt a0 x4_1) = 127 then ((sigilref4_octal.f (bt a0 x4_1)).bind fun t226 => (if x3_1.length + t226.size < 140737488355328 then (sigilref4_Quote.l0 kj5 a0 (x3_1 ++ bytesOf t226) (wrap64 (x4_1 + 1))) else (none))) else (if t197 = 0 then ((sigilref4_octal.f (bt a0 x4_1)).bind fun t230 => (if x3_1.length + t230.size < 140737488355328 then (sigilref4_Quote.l0 kj5 a0 (x3_1 ++ bytesOf t230) (wrap64 (x4_1 + 1))) else (none))) else (if 0 ≤ x4_1 then (if x4_1 ≤ (wrap64 (x4_1 + t197)) then (if (wrap64 (x4_1 + t197)) ≤ (a0.size : Int) then (if x3_1.length + (a0.extract (x4_1 : Int).toNat ((wrap64 (x4_1 + t197)) : Int).toNat).size < 140737488355328 then (sigilref4_Quote.l0 kj5 a0 (x3_1 ++ bytesOf (a0.extract (x4_1 : Int).toNat ((wrap64 (x4_1 + t197)) : Int).toNat)) (wrap64 (x4_1 + t197))) else (none)) else (none)) else (none)) else (none)))))))) = some r := by rw [if_neg (show ¬ (false = true) by decide)] at H; exact H
                clear H
                have H := H1
                clear H1
                by_cases c14 : (bt a0 x4_1) = 10
                · rw [if_pos c14] at H
                  have c14b0 : ((bt a0 x4_1) == 10) = true := beq_iff_eq.mpr c14
                  have c14b1 : ((bt a0 x4_1) != 10) = false := bne_eq_false_iff_eq.mpr c14
                  clear c14
                  obtain ⟨y204, hy204⟩ : ∃ y_ : List Int, y_ = (([92, 110] : List Int)) := ⟨_, rfl⟩
                  replace H : (if x3_1.length + y204.length < 140737488355328 then (sigilref4_Quote.l0 kj5 a0 (x3_1 ++ y204) (wrap64 (x4_1 + t197))) else (none)) = some r := by first | (rw [hy204]; with_reducible exact H) | (have H2_ := (Option.bind_some _ _).symm.trans H; rw [hy204]; with_reducible exact H2_) | (have H2_ := (Option.bind_some _ _).symm.trans H; with_reducible exact H2_) | with_reducible exact H | (rw [hy204]; exact H) | exact H
                  have Ny204 := Aside0.mk hy204
                  clear hy204
                  by_cases c15 : x3_1.length + y204.length < 140737488355328
                  · rw [if_pos c15] at H
                    have LMc15 := Aside0.mk c15
                    clear c15
                    obtain ⟨y207, hy207⟩ : ∃ y_ : List Int, y_ = (x3_1 ++ y204) := ⟨_, rfl⟩
                    replace H : (sigilref4_Quote.l0 kj5 a0 y207 (wrap64 (x4_1 + t197))) = some r := by first | (rw [hy207]; with_reducible exact H) | (have H2_ := (Option.bind_some _ _).symm.trans H; rw [hy207]; with_reducible exact H2_) | (have H2_ := (Option.bind_some _ _).symm.trans H; with_reducible exact H2_) | with_reducible exact H | (rw [hy207]; exact H) | exact H
                    have Ny207 := Aside0.mk hy207
                    clear hy207
                    have H' := Aside0.mk H
                    clear H
                    go_wp2_with (first | ((with_reducible refine gate_dst (N := 40) rfl ?_); refine Kd.R_lit (Kd.int .u8) _ 5 ?hg (N := 40) ?hd (xs := ([92, 110] : List Int)) (inner := [.int .u8 92, .int .u8 110]) (ok := fun _ => True) (okp := fun _ => True) ?hr ?hp (fun _ hk => hk) trivial (Below.refl _ _) (Nat.le_refl _) (by simp) ?_; (case hd => rfl); (case hg => rfl); (case hr => first | (go_simp; done) | (go_simp; rfl)); (case hp => exact (Reps.one (show Kd.M (Kd.int .u8) _ _ _ 92 [.int .u8 92] from rfl) (Reps.one (show Kd.M (Kd.int .u8) _ _ _ 110 [.int .u8 110] from rfl) (Reps.none _ _)))); intro v205 w16 ho17 hb hg_ hnew_; clear hg_ hnew_; (first | rw [← Ny204.out] at ho17 | (simp only [Int.reduceToNat] at ho17; rw [← Ny204.out] at ho17)); have n0_ := Aside0.mk (Kd.R_elder' (by (with_reducible repeat (first | apply Kd.R_alloc | apply Kd.R_drewN | apply Kd.R_drew)); exact HO_3.out) (Kd.R_base ho17) hb); have n1_ := Aside0.mk (Kd.R_lower (Kd.R_new' ho17 (Kd.R_lt (by (with_reducible repeat (first | apply Kd.R_alloc | apply Kd.R_drewN | apply Kd.R_drew)); exact HO_3.out))) (below_size (by repeat (first | (with_reducible first | exact HB.out | apply below_alloc | apply pw_below_drewN | apply below_drew1) | exact HB.out)))); have n2_ := Aside0.mk (below_step (by repeat (first | (with_reducible first | exact HB.out | apply below_alloc | apply pw_below_drewN | apply below_drew1) | exact HB.out)) hb); clear HO_3; clear HB; have HO_3 := n0_; have HO206 := n1_; have HB := n2_; clear n0_ n1_ n2_; clear hb ho17; obtain ⟨Ao19, co19, eo19⟩ := Kd.R_slice HO206.out; subst eo19) | ((with_reducible refine gate_builtin (b := .append) (xs := #[.tmp 39, .tmp 40]) rfl ?_); at_builtin; refine Kd.R_append_rows (Kd.int .u8) (w0 := w) w.heap.size rfl (.tmp 39) (.tmp 40) 33 5 (.int .u8 0) 1 rfl Tryd.underlying33 info5 rfl (by decide) (by omega) u3 x3_1 y204 _ _ _ (fun k_ => some k_ ≠ (.slice Ao19 y204.length co19 : Value).ownBlock) (fun _ => False) rfl rfl ?aO ?aR (fun _ _ h => h) (fun _ h => h.elim) ?aF ?aB ?aS ?aL ?_; (case aR => repeat (first | exact (Kd.R_reads' HO206.out).2.2 | (with_reducible refine Kd.C_alloc ?_ _) | (with_reducible refine Kd.C_drewN ?_ _) | (with_reducible refine Kd.C_drew ?_))); (case aB => exact (by repeat (first | (with_reducible first | exact HB.out | apply below_alloc | apply pw_below_drewN | apply below_drew1) | exact HB.out))); (case aF => exact (fun k_ hk => Kd.fresh' (Kd.R_lt (by (with_reducible repeat (first | apply Kd.R_alloc | apply Kd.R_drewN | apply Kd.R_drew)); exact HO206.out)) k_ hk)); (case aO => exact (by (with_reducible repeat (first | apply Kd.R_alloc | apply Kd.R_drewN | apply Kd.R_drew)); exact Kd.R_mono HO_3.out (fun _ hk => hk.2))); (case aS => exact (below_size (by repeat (first | (with_reducible first | exact HB.out | apply below_alloc | apply pw_below_drewN | apply below_drew1) | exact HB.out)))); (case aL => have := LMc15.out; omega); intro v208 w18 ho hb hg hat; rw [← Ny207.out] at ho; have n0_ := Aside0.mk (Kd.R_after (ok := (fun _ => True)) (by (with_reducible repeat (first | apply Kd.R_alloc | apply Kd.R_drewN | apply Kd.R_drew)); exact HO206.out) hg hat); have n1_ := Aside0.mk (hb); have n2_ := Aside0.mk (ho); clear HO206; clear HB; clear HO_3; have HO206 := n0_; have HB := n1_; have HO209 := n2_; clear n0_ n1_ n2_; clear ho hb hg hat))
                    go_roundg kj5
                    case measure => have := HK1.out; have := HJ5.out; omega
                    case rel => exact ⟨(y207), (wrap64 (x4_1 + t197)), (by first | rfl | (simp; done) | (simp [*]; done)), H', ⟨by have := HK1.out; have := HJ5.out; omega⟩, ⟨by (with_reducible repeat (first | apply Kd.R_alloc | apply Kd.R_drewN | apply Kd.R_drew)); exact Kd.R_mono HO209.out (fun _ hk => trivial)⟩, ⟨by repeat (first | (with_reducible first | exact HB.out | apply below_alloc | apply pw_below_drewN | apply below_drew1) | exact HB.out)⟩⟩
                  · rw [if_neg c15] at H
                    exact absurd H (by simp)
                · rw [if_neg c14] at H
                  have c14b0 : ((bt a0 x4_1) == 10) = false := beq_eq_false_iff_ne.mpr c14
                  have c14b1 : ((bt a0 x4_1) != 10) = true := bne_iff_ne.mpr c14
                  by_cases c20 : (bt a0 x4_1) = 13
                  · rw [if_pos c20] at H
                    have c20b0 : ((bt a0 x4_1) == 13) = true := beq_iff_eq.mpr c20
                    have c20b1 : ((bt a0 x4_1) != 13) = false := bne_eq_false_iff_eq.mpr c20
                    clear c20
                    obtain ⟨y210, hy210⟩ : ∃ y_ : List Int, y_ = (([92, 114] : List Int)) := ⟨_, rfl⟩
                    replace H : (if x3_1.length + y210.length < 140737488355328 then (sigilref4_Quote.l0 kj5 a0 (x3_1 ++ y210) (wrap64 (x4_1 + t197))) else (none)) = some r := by first | (rw [hy210]; with_reducible exact H) | (have H2_ := (Option.bind_some _ _).symm.trans H; rw [hy210]; with_reducible exact H2_) | (have H2_ := (Option.bind_some _ _).symm.trans H; with_reducible exact H2_) | with_reducible exact H | (rw [hy210]; exact H) | exact H
                    have Ny210 := Aside0.mk hy210
                    clear hy210
                    by_cases c21 : x3_1.length + y210.length < 140737488355328
                    · rw [if_pos c21] at H
                      have LMc21 := Aside0.mk c21
                      clear c21
                      obtain ⟨y213, hy213⟩ : ∃ y_ : List Int, y_ = (x3_1 ++ y210) := ⟨_, rfl⟩
                      replace H : (sigilref4_Quote.l0 kj5 a0 y213 (wrap64 (x4_1 + t197))) = some r := by first | (rw [hy213]; with_reducible exact H) | (have H2_ := (Option.bind_some _ _).symm.trans H; rw [hy213]; with_reducible exact H2_) | (have H2_ := (Option.bind_some _ _).symm.trans H; with_reducible exact H2_) | with_reducible exact H | (rw [hy213]; exact H) | exact H
                      have Ny213 := Aside0.mk hy213
                      clear hy213
                      have H' := Aside0.mk H
                      clear H
                      go_wp2_with (first | ((with_reducible refine gate_dst (N := 46) rfl ?_); refine Kd.R_lit (Kd.int .u8) _ 5 ?hg (N := 46) ?hd (xs := ([92, 114] : List Int)) (inner := [.int .u8 92, .int .u8 114]) (ok := fun _ => True) (okp := fun _ => True) ?hr ?hp (fun _ hk => hk) trivial (Below.refl _ _) (Nat.le_refl _) (by simp) ?_; (case hd => rfl); (case hg => rfl); (case hr => first | (go_simp; done) | (go_simp; rfl)); (case hp => exact (Reps.one (show Kd.M (Kd.int .u8) _ _ _ 92 [.int .u8 92] from rfl) (Reps.one (show Kd.M (Kd.int .u8) _ _ _ 114 [.int .u8 114] from rfl) (Reps.none _ _)))); intro v211 w22 ho23 hb hg_ hnew_; clear hg_ hnew_; (first | rw [← Ny210.out] at ho23 | (simp only [Int.reduceToNat] at ho23; rw [← Ny210.out] at ho23)); have n0_ := Aside0.mk (Kd.R_elder' (by (with_reducible repeat (first | apply Kd.R_alloc | apply Kd.R_drewN | apply Kd.R_drew)); exact HO_3.out) (Kd.R_base ho23) hb); have n1_ := Aside0.mk (Kd.R_lower (Kd.R_new' ho23 (Kd.R_lt (by (with_reducible repeat (first | apply Kd.R_alloc | apply Kd.R_drewN | apply Kd.R_drew)); exact HO_3.out))) (below_size (by repeat (first | (with_reducible first | exact HB.out | apply below_alloc | apply pw_below_drewN | apply below_drew1) | exact HB.out)))); have n2_ := Aside0.mk (below_step (by repeat (first | (with_reducible first | exact HB.out | apply below_alloc | apply pw_below_drewN | apply below_drew1) | exact HB.out)) hb); clear HO_3; clear HB; have HO_3 := n0_; have HO212 := n1_; have HB := n2_; clear n0_ n1_ n2_; clear hb ho23; obtain ⟨Ao25, co25, eo25⟩ := Kd.R_slice HO212.out; subst eo25) | ((with_reducible refine gate_builtin (b := .append) (xs := #[.tmp 45, .tmp 46]) rfl ?_); at_builtin; refine Kd.R_append_rows (Kd.int .u8) (w0 := w) w.heap.size rfl (.tmp 45) (.tmp 46) 33 5 (.int .u8 0) 1 rfl Tryd.underlying33 info5 rfl (by decide) (by omega) u3 x3_1 y210 _ _ _ (fun k_ => some k_ ≠ (.slice Ao25 y210.length co25 : Value).ownBlock) (fun _ => False) rfl rfl ?aO ?aR (fun _ _ h => h) (fun _ h => h.elim) ?aF ?aB ?aS ?aL ?_; (case aR => repeat (first | exact (Kd.R_reads' HO212.out).2.2 | (with_reducible refine Kd.C_alloc ?_ _) | (with_reducible refine Kd.C_drewN ?_ _) | (with_reducible refine Kd.C_drew ?_))); (case aB => exact (by repeat (first | (with_reducible first | exact HB.out | apply below_alloc | apply pw_below_drewN | apply below_drew1) | exact HB.out))); (case aF => exact (fun k_ hk => Kd.fresh' (Kd.R_lt (by (with_reducible repeat (first | apply Kd.R_alloc | apply Kd.R_drewN | apply Kd.R_drew)); exact HO212.out)) k_ hk)); (case aO => exact (by (with_reducible repeat (first | apply Kd.R_alloc | apply Kd.R_drewN | apply Kd.R_drew)); exact Kd.R_mono HO_3.out (fun _ hk => hk.2))); (case aS => exact (below_size (by repeat (first | (with_reducible first | exact HB.out | apply below_alloc | apply pw_below_drewN | apply below_drew1) | exact HB.out)))); (case aL => have := LMc21.out; omega); intro v214 w24 ho hb hg hat; rw [← Ny213.out] at ho; have n0_ := Aside0.mk (Kd.R_after (ok := (fun _ => True)) (by (with_reducible repeat (first | apply Kd.R_alloc | apply Kd.R_drewN | apply Kd.R_drew)); exact HO212.out) hg hat); have n1_ := Aside0.mk (hb); have n2_ := Aside0.mk (ho); clear HO212; clear HB; clear HO_3; have HO212 := n0_; have HB := n1_; have HO215 := n2_; clear n0_ n1_ n2_; clear ho hb hg hat))
                      go_roundg kj5
                      case measure => have := HK1.out; have := HJ5.out; omega
                      case rel => exact ⟨(y213), (wrap64 (x4_1 + t197)), (by first | rfl | (simp; done) | (simp [*]; done)), H', ⟨by have := HK1.out; have := HJ5.out; omega⟩, ⟨by (with_reducible repeat (first | apply Kd.R_alloc | apply Kd.R_drewN | apply Kd.R_drew)); exact Kd.R_mono HO215.out (fun _ hk => trivial)⟩, ⟨by repeat (first | (with_reducible first | exact HB.out | apply below_alloc | apply pw_below_drewN | apply below_drew1) | exact HB.out)⟩⟩
                    · rw [if_neg c21] at H
                      exact absurd H (by simp)
                  · rw [if_neg c20] at H
                    have c20b0 : ((bt a0 x4_1) == 13) = false := beq_eq_false_iff_ne.mpr c20
                    have c20b1 : ((bt a0 x4_1) != 13) = true := bne_iff_ne.mpr c20
                    by_cases c26 : (bt a0 x4_1) = 9
                    · rw [if_pos c26] at H
                      have c26b0 : ((bt a0 x4_1) == 9) = true := beq_iff_eq.mpr c26
                      have c26b1 : ((bt a0 x4_1) != 9) = false := bne_eq_false_iff_eq.mpr c26
                      clear c26
                      obtain ⟨y216, hy216⟩ : ∃ y_ : List Int, y_ = (([92, 116] : List Int)) := ⟨_, rfl⟩
                      replace H : (if x3_1.length + y216.length < 140737488355328 then (sigilref4_Quote.l0 kj5 a0 (x3_1 ++ y216) (wrap64 (x4_1 + t197))) else (none)) = some r := by first | (rw [hy216]; with_reducible exact H) | (have H2_ := (Option.bind_some _ _).symm.trans H; rw [hy216]; with_reducible exact H2_) | (have H2_ := (Option.bind_some _ _).symm.trans H; with_reducible exact H2_) | with_reducible exact H | (rw [hy216]; exact H) | exact H
                      have Ny216 := Aside0.mk hy216
                      clear hy216
                      by_cases c27 : x3_1.length + y216.length < 140737488355328
                      · rw [if_pos c27] at H
                        have LMc27 := Aside0.mk c27
                        clear c27
                        obtain ⟨y219, hy219⟩ : ∃ y_ : List Int, y_ = (x3_1 ++ y216) := ⟨_, rfl⟩
                        replace H : (sigilref4_Quote.l0 kj5 a0 y219 (wrap64 (x4_1 + t197))) = some r := by first | (rw [hy219]; with_reducible exact H) | (have H2_ := (Option.bind_some _ _).symm.trans H; rw [hy219]; with_reducible exact H2_) | (have H2_ := (Option.bind_some _ _).symm.trans H; with_reducible exact H2_) | with_reducible exact H | (rw [hy219]; exact H) | exact H
                        have Ny219 := Aside0.mk hy219
                        clear hy219
                        have H' := Aside0.mk H
                        clear H
                        go_wp2_with (first | ((with_reducible refine gate_dst (N := 52) rfl ?_); refine Kd.R_lit (Kd.int .u8) _ 5 ?hg (N := 52) ?hd (xs := ([92, 116] : List Int)) (inner := [.int .u8 92, .int .u8 116]) (ok := fun _ => True) (okp := fun _ => True) ?hr ?hp (fun _ hk => hk) trivial (Below.refl _ _) (Nat.le_refl _) (by simp) ?_; (case hd => rfl); (case hg => rfl); (case hr => first | (go_simp; done) | (go_simp; rfl)); (case hp => exact (Reps.one (show Kd.M (Kd.int .u8) _ _ _ 92 [.int .u8 92] from rfl) (Reps.one (show Kd.M (Kd.int .u8) _ _ _ 116 [.int .u8 116] from rfl) (Reps.none _ _)))); intro v217 w28 ho29 hb hg_ hnew_; clear hg_ hnew_; (first | rw [← Ny216.out] at ho29 | (simp only [Int.reduceToNat] at ho29; rw [← Ny216.out] at ho29)); have n0_ := Aside0.mk (Kd.R_elder' (by (with_reducible repeat (first | apply Kd.R_alloc | apply Kd.R_drewN | apply Kd.R_drew)); exact HO_3.out) (Kd.R_base ho29) hb); have n1_ := Aside0.mk (Kd.R_lower (Kd.R_new' ho29 (Kd.R_lt (by (with_reducible repeat (first | apply Kd.R_alloc | apply Kd.R_drewN | apply Kd.R_drew)); exact HO_3.out))) (below_size (by repeat (first | (with_reducible first | exact HB.out | apply below_alloc | apply pw_below_drewN | apply below_drew1) | exact HB.out)))); have n2_ := Aside0.mk (below_step (by repeat (first | (with_reducible first | exact HB.out | apply below_alloc | apply pw_below_drewN | apply below_drew1) | exact HB.out)) hb); clear HO_3; clear HB; have HO_3 := n0_; have HO218 := n1_; have HB := n2_; clear n0_ n1_ n2_; clear hb ho29; obtain ⟨Ao31, co31, eo31⟩ := Kd.R_slice HO218.out; subst eo31) | ((with_reducible refine gate_builtin (b := .append) (xs := #[.tmp 51, .tmp 52]) rfl ?_); at_builtin; refine Kd.R_append_rows (Kd.int .u8) (w0 := w) w.heap.size rfl (.tmp 51) (.tmp 52) 33 5 (.int .u8 0) 1 rfl Tryd.underlying33 info5 rfl (by decide) (by omega) u3 x3_1 y216 _ _ _ (fun k_ => some k_ ≠ (.slice Ao31 y216.length co31 : Value).ownBlock) (fun _ => False) rfl rfl ?aO ?aR (fun _ _ h => h) (fun _ h => h.elim) ?aF ?aB ?aS ?aL ?_; (case aR => repeat (first | exact (Kd.R_reads' HO218.out).2.2 | (with_reducible refine Kd.C_alloc ?_ _) | (with_reducible refine Kd.C_drewN ?_ _) | (with_reducible refine Kd.C_drew ?_))); (case aB => exact (by repeat (first | (with_reducible first | exact HB.out | apply below_alloc | apply pw_below_drewN | apply below_drew1) | exact HB.out))); (case aF => exact (fun k_ hk => Kd.fresh' (Kd.R_lt (by (with_reducible repeat (first | apply Kd.R_alloc | apply Kd.R_drewN | apply Kd.R_drew)); exact HO218.out)) k_ hk)); (case aO => exact (by (with_reducible repeat (first | apply Kd.R_alloc | apply Kd.R_drewN | apply Kd.R_drew)); exact Kd.R_mono HO_3.out (fun _ hk => hk.2))); (case aS => exact (below_size (by repeat (first | (with_reducible first | exact HB.out | apply below_alloc | apply pw_below_drewN | apply below_drew1) | exact HB.out)))); (case aL => have := LMc27.out; omega); intro v220 w30 ho hb hg hat; rw [← Ny219.out] at ho; have n0_ := Aside0.mk (Kd.R_after (ok := (fun _ => True)) (by (with_reducible repeat (first | apply Kd.R_alloc | apply Kd.R_drewN | apply Kd.R_drew)); exact HO218.out) hg hat); have n1_ := Aside0.mk (hb); have n2_ := Aside0.mk (ho); clear HO218; clear HB; clear HO_3; have HO218 := n0_; have HB := n1_; have HO221 := n2_; clear n0_ n1_ n2_; clear ho hb hg hat))
                        go_roundg kj5
                        case measure => have := HK1.out; have := HJ5.out; omega
                        case rel => exact ⟨(y219), (wrap64 (x4_1 + t197)), (by first | rfl | (simp; done) | (simp [*]; done)), H', ⟨by have := HK1.out; have := HJ5.out; omega⟩, ⟨by (with_reducible repeat (first | apply Kd.R_alloc | apply Kd.R_drewN | apply Kd.R_drew)); exact Kd.R_mono HO221.out (fun _ hk => trivial)⟩, ⟨by repeat (first | (with_reducible first | exact HB.out | apply below_alloc | apply pw_below_drewN | apply below_drew1) | exact HB.out)⟩⟩
                      · rw [if_neg c27] at H
                        exact absurd H (by simp)
                    · rw [if_neg c26] at H
                      have c26b0 : ((bt a0 x4_1) == 9) = false := beq_eq_false_iff_ne.mpr c26
                      have c26b1 : ((bt a0 x4_1) != 9) = true := bne_iff_ne.mpr c26
                      by_cases c32 : (bt a0 x4_1) < 32
                      · rw [if_pos c32] at H
                        have c32b0 : decide ((bt a0 x4_1) < 32) = true := decide_eq_true c32
                        clear c32
                        replace H := Option.bind_eq_some_iff.mp H
                        obtain ⟨t222, A330, H⟩ := H
                        replace H : (if x3_1.length + t222.size < 140737488355328 then (sigilref4_Quote.l0 kj5 a0 (x3_1 ++ bytesOf t222) (wrap64 (x4_1 + 1))) else (none)) = some r := H
                        have A33 := Aside0.mk A330
                        clear A330
                        by_cases c34 : x3_1.length + t222.size < 140737488355328
                        · rw [if_pos c34] at H
                          have LMc34 := Aside0.mk c34
                          clear c34
                          obtain ⟨y223, hy223⟩ : ∃ y_ : List Int, y_ = (x3_1 ++ bytesOf t222) := ⟨_, rfl⟩
                          replace H : (sigilref4_Quote.l0 kj5 a0 y223 (wrap64 (x4_1 + 1))) = some r := by first | (rw [hy223]; with_reducible exact H) | (have H2_ := (Option.bind_some _ _).symm.trans H; rw [hy223]; with_reducible exact H2_) | (have H2_ := (Option.bind_some _ _).symm.trans H; with_reducible exact H2_) | with_reducible exact H | (rw [hy223]; exact H) | exact H
                          have Ny223 := Aside0.mk hy223
                          clear hy223
                          have H' := Aside0.mk H
                          clear H
                          go_wp2_with (first | ((with_reducible refine gate_callee (f := 40) rfl ?_); refine goesL_ (some 67) rfl rfl Tryd.func40 (by kernel_rfl) rfl #[.int .u8 (bt a0 x4_1)] rfl (by (try simp only [List.map_toArray, List.map_cons, List.map_nil]); first | done | rfl | (simp only [List.length_drop, List.length_take]; rfl)) ?_; (with_reducible refine (sigilref4_octal.calls (bt a0 x4_1) t222 _ A33.out).mono ?_); rintro e w35 ⟨rfl, hb⟩; refine ⟨_, rfl, ?_⟩; have n0_ := Aside0.mk (Kd.R_below (by (with_reducible repeat (first | apply Kd.R_alloc | apply Kd.R_drewN | apply Kd.R_drew)); exact HO_3.out) hb); have n1_ := Aside0.mk (below_step (by repeat (first | (with_reducible first | exact HB.out | apply below_alloc | apply pw_below_drewN | apply below_drew1) | exact HB.out)) hb); clear HO_3; clear HB; have HO_3 := n0_; have HB := n1_; clear n0_ n1_; (try clear hb); (try clear hb2); (try clear hk); (try clear hi)) | (at_builtin; refine print_append_str (w0 := w) w.heap.size rfl (.tmp 65) _ 33 9 5 rfl Tryd.underlying33 Tryd.underlying9 info5 u3 x3_1 t222 rfl rfl ?aO ?aB ?aS ?aL ?_; (case aB => exact (by repeat (first | (with_reducible first | exact HB.out | apply below_alloc | apply pw_below_drewN | apply below_drew1) | exact HB.out))); (case aO => exact (Kd.own_of_R (by (with_reducible repeat (first | apply Kd.R_alloc | apply Kd.R_drewN | apply Kd.R_drew)); exact HO_3.out))); (case aS => exact (below_size (by repeat (first | (with_reducible first | exact HB.out | apply below_alloc | apply pw_below_drewN | apply below_drew1) | exact HB.out)))); (case aL => have := LMc34.out; omega); intro v224 w36 ho0 hb hg; have ho := Kd.R_of_own (h1 := fun _ => rfl) (ok := fun _ => True) ho0 (fun _ _ => trivial); clear ho0; have hat := True.intro; rw [← Ny223.out] at ho; change Kd.R (Kd.int .u8) 5 w36 w.heap.size (fun _ => True) v224 y223 at ho; have n0_ := Aside0.mk (hb); have n1_ := Aside0.mk (ho); clear HB; clear HO_3; have HB := n0_; have HO225 := n1_; clear n0_ n1_; clear ho hb hg hat))
                          go_roundg kj5
                          case measure => have := HK1.out; have := HJ5.out; omega
                          case rel => exact ⟨(y223), (wrap64 (x4_1 + 1)), (by first | rfl | (simp; done) | (simp [*]; done)), H', ⟨by have := HK1.out; have := HJ5.out; omega⟩, ⟨by (with_reducible repeat (first | apply Kd.R_alloc | apply Kd.R_drewN | apply Kd.R_drew)); exact HO225.out⟩, ⟨by repeat (first | (with_reducible first | exact HB.out | apply below_alloc | apply pw_below_drewN | apply below_drew1) | exact HB.out)⟩⟩
                        · rw [if_neg c34] at H
                          exact absurd H (by simp)
                      · rw [if_neg c32] at H
                        have c32b0 : decide ((bt a0 x4_1) < 32) = false := decide_eq_false c32
                        clear c32
                        by_cases c37 : (bt a0 x4_1) = 127
                        · rw [if_pos c37] at H
                          have c37b0 : ((bt a0 x4_1) == 127) = true := beq_iff_eq.mpr c37
                          have c37b1 : ((bt a0 x4_1) != 127) = false := bne_eq_false_iff_eq.mpr c37
                          clear c37
                          replace H := Option.bind_eq_some_iff.mp H
                          obtain ⟨t226, A380, H⟩ := H
                          replace H : (if x3_1.length + t226.size < 140737488355328 then (sigilref4_Quote.l0 kj5 a0 (x3_1 ++ bytesOf t226) (wrap64 (x4_1 + 1))) else (none)) = some r := H
                          have A38 := Aside0.mk A380
                          clear A380
                          by_cases c39 : x3_1.length + t226.size < 140737488355328
                          · rw [if_pos c39] at H
                            have LMc39 := Aside0.mk c39
                            clear c39
                            obtain ⟨y227, hy227⟩ : ∃ y_ : List Int, y_ = (x3_1 ++ bytesOf t226) := ⟨_, rfl⟩
                            replace H : (sigilref4_Quote.l0 kj5 a0 y227 (wrap64 (x4_1 + 1))) = some r := by first | (rw [hy227]; with_reducible exact H) | (have H2_ := (Option.bind_some _ _).symm.trans H; rw [hy227]; with_reducible exact H2_) | (have H2_ := (Option.bind_some _ _).symm.trans H; with_reducible exact H2_) | with_reducible exact H | (rw [hy227]; exact H) | exact H
                            have Ny227 := Aside0.mk hy227
                            clear hy227
                            have H' := Aside0.mk H
                            clear H
                            go_wp2_with (first | ((with_reducible refine gate_callee (f := 40) rfl ?_); refine goesL_ (some 67) rfl rfl Tryd.func40 (by kernel_rfl) rfl #[.int .u8 (bt a0 x4_1)] rfl (by (try simp only [List.map_toArray, List.map_cons, List.map_nil]); first | done | rfl | (simp only [List.length_drop, List.length_take]; rfl)) ?_; (with_reducible refine (sigilref4_octal.calls (bt a0 x4_1) t226 _ A38.out).mono ?_); rintro e w40 ⟨rfl, hb⟩; refine ⟨_, rfl, ?_⟩; have n0_ := Aside0.mk (Kd.R_below (by (with_reducible repeat (first | apply Kd.R_alloc | apply Kd.R_drewN | apply Kd.R_drew)); exact HO_3.out) hb); have n1_ := Aside0.mk (below_step (by repeat (first | (with_reducible first | exact HB.out | apply below_alloc | apply pw_below_drewN | apply below_drew1) | exact HB.out)) hb); clear HO_3; clear HB; have HO_3 := n0_; have HB := n1_; clear n0_ n1_; (try clear hb); (try clear hb2); (try clear hk); (try clear hi)) | (at_builtin; refine print_append_str (w0 := w) w.heap.size rfl (.tmp 65) _ 33 9 5 rfl Tryd.underlying33 Tryd.underlying9 info5 u3 x3_1 t226 rfl rfl ?aO ?aB ?aS ?aL ?_; (case aB => exact (by repeat (first | (with_reducible first | exact HB.out | apply below_alloc | apply pw_below_drewN | apply below_drew1) | exact HB.out))); (case aO => exact (Kd.own_of_R (by (with_reducible repeat (first | apply Kd.R_alloc | apply Kd.R_drewN | apply Kd.R_drew)); exact HO_3.out))); (case aS => exact (below_size (by repeat (first | (with_reducible first | exact HB.out | apply below_alloc | apply pw_below_drewN | apply below_drew1) | exact HB.out)))); (case aL => have := LMc39.out; omega); intro v228 w41 ho0 hb hg; have ho := Kd.R_of_own (h1 := fun _ => rfl) (ok := fun _ => True) ho0 (fun _ _ => trivial); clear ho0; have hat := True.intro; rw [← Ny227.out] at ho; change Kd.R (Kd.int .u8) 5 w41 w.heap.size (fun _ => True) v228 y227 at ho; have n0_ := Aside0.mk (hb); have n1_ := Aside0.mk (ho); clear HB; clear HO_3; have HB := n0_; have HO229 := n1_; clear n0_ n1_; clear ho hb hg hat))
                            go_roundg kj5
                            case measure => have := HK1.out; have := HJ5.out; omega
                            case rel => exact ⟨(y227), (wrap64 (x4_1 + 1)), (by first | rfl | (simp; done) | (simp [*]; done)), H', ⟨by have := HK1.out; have := HJ5.out; omega⟩, ⟨by (with_reducible repeat (first | apply Kd.R_alloc | apply Kd.R_drewN | apply Kd.R_drew)); exact HO229.out⟩, ⟨by repeat (first | (with_reducible first | exact HB.out | apply below_alloc | apply pw_below_drewN | apply below_drew1) | exact HB.out)⟩⟩
                          · rw [if_neg c39] at H
                            exact absurd H (by simp)
                        · rw [if_neg c37] at H
                          have c37b0 : ((bt a0 x4_1) == 127) = false := beq_eq_false_iff_ne.mpr c37
                          have c37b1 : ((bt a0 x4_1) != 127) = true := bne_iff_ne.mpr c37
                          by_cases c42 : t197 = 0
                          · rw [if_pos c42] at H
                            have c42b0 : (t197 == 0) = true := beq_iff_eq.mpr c42
                            have c42b1 : (t197 != 0) = false := bne_eq_false_iff_eq.mpr c42
                            clear c42
                            replace H := Option.bind_eq_some_iff.mp H
                            obtain ⟨t230, A430, H⟩ := H
                            replace H : (if x3_1.length + t230.size < 140737488355328 then (sigilref4_Quote.l0 kj5 a0 (x3_1 ++ bytesOf t230) (wrap64 (x4_1 + 1))) else (none)) = some r := H
                            have A43 := Aside0.mk A430
                            clear A430
                            by_cases c44 : x3_1.length + t230.size < 140737488355328
                            · rw [if_pos c44] at H
                              have LMc44 := Aside0.mk c44
                              clear c44
                              obtain ⟨y231, hy231⟩ : ∃ y_ : List Int, y_ = (x3_1 ++ bytesOf t230) := ⟨_, rfl⟩
                              replace H : (sigilref4_Quote.l0 kj5 a0 y231 (wrap64 (x4_1 + 1))) = some r := by first | (rw [hy231]; with_reducible exact H) | (have H2_ := (Option.bind_some _ _).symm.trans H; rw [hy231]; with_reducible exact H2_) | (have H2_ := (Option.bind_some _ _).symm.trans H; with_reducible exact H2_) | with_reducible exact H | (rw [hy231]; exact H) | exact H
                              have Ny231 := Aside0.mk hy231
                              clear hy231
                              have H' := Aside0.mk H
                              clear H
                              go_wp2_with (first | ((with_reducible refine gate_callee (f := 40) rfl ?_); refine goesL_ (some 67) rfl rfl Tryd.func40 (by kernel_rfl) rfl #[.int .u8 (bt a0 x4_1)] rfl (by (try simp only [List.map_toArray, List.map_cons, List.map_nil]); first | done | rfl | (simp only [List.length_drop, List.length_take]; rfl)) ?_; (with_reducible refine (sigilref4_octal.calls (bt a0 x4_1) t230 _ A43.out).mono ?_); rintro e w45 ⟨rfl, hb⟩; refine ⟨_, rfl, ?_⟩; have n0_ := Aside0.mk (Kd.R_below (by (with_reducible repeat (first | apply Kd.R_alloc | apply Kd.R_drewN | apply Kd.R_drew)); exact HO_3.out) hb); have n1_ := Aside0.mk (below_step (by repeat (first | (with_reducible first | exact HB.out | apply below_alloc | apply pw_below_drewN | apply below_drew1) | exact HB.out)) hb); clear HO_3; clear HB; have HO_3 := n0_; have HB := n1_; clear n0_ n1_; (try clear hb); (try clear hb2); (try clear hk); (try clear hi)) | (at_builtin; refine print_append_str (w0 := w) w.heap.size rfl (.tmp 65) _ 33 9 5 rfl Tryd.underlying33 Tryd.underlying9 info5 u3 x3_1 t230 rfl rfl ?aO ?aB ?aS ?aL ?_; (case aB => exact (by repeat (first | (with_reducible first | exact HB.out | apply below_alloc | apply pw_below_drewN | apply below_drew1) | exact HB.out))); (case aO => exact (Kd.own_of_R (by (with_reducible repeat (first | apply Kd.R_alloc | apply Kd.R_drewN | apply Kd.R_drew)); exact HO_3.out))); (case aS => exact (below_size (by repeat (first | (with_reducible first | exact HB.out | apply below_alloc | apply pw_below_drewN | apply below_drew1) | exact HB.out)))); (case aL => have := LMc44.out; omega); intro v232 w46 ho0 hb hg; have ho := Kd.R_of_own (h1 := fun _ => rfl) (ok := fun _ => True) ho0 (fun _ _ => trivial); clear ho0; have hat := True.intro; rw [← Ny231.out] at ho; change Kd.R (Kd.int .u8) 5 w46 w.heap.size (fun _ => True) v232 y231 at ho; have n0_ := Aside0.mk (hb); have n1_ := Aside0.mk (ho); clear HB; clear HO_3; have HB := n0_; have HO233 := n1_; clear n0_ n1_; clear ho hb hg hat))
                              go_roundg kj5
                              case measure => have := HK1.out; have := HJ5.out; omega
                              case rel => exact ⟨(y231), (wrap64 (x4_1 + 1)), (by first | rfl | (simp; done) | (simp [*]; done)), H', ⟨by have := HK1.out; have := HJ5.out; omega⟩, ⟨by (with_reducible repeat (first | apply Kd.R_alloc | apply Kd.R_drewN | apply Kd.R_drew)); exact HO233.out⟩, ⟨by repeat (first | (with_reducible first | exact HB.out | apply below_alloc | apply pw_below_drewN | apply below_drew1) | exact HB.out)⟩⟩
                            · rw [if_neg c44] at H
                              exact absurd H (by simp)
                          · rw [if_neg c42] at H
                            have c42b0 : (t197 == 0) = false := beq_eq_false_iff_ne.mpr c42
                            have c42b1 : (t197 != 0) = true := bne_iff_ne.mpr c42
                            by_cases c47 : 0 ≤ x4_1
                            · rw [if_pos c47] at H
                              have c47b0 := eq_true c47
                              have c47b1 : decide (0 ≤ x4_1) = true := decide_eq_true c47
                              clear c47
                              by_cases c48 : x4_1 ≤ (wrap64 (x4_1 + t197))
                              · rw [if_pos c48] at H
                                have c48b0 := eq_true c48
                                have c48b1 : decide (x4_1 ≤ (wrap64 (x4_1 + t197))) = true := decide_eq_true c48
                                by_cases c49 : (wrap64 (x4_1 + t197)) ≤ (a0.size : Int)
                                · rw [if_pos c49] at H
                                  have c49b0 := eq_true c49
                                  have c49b1 : decide ((wrap64 (x4_1 + t197)) ≤ (a0.size : Int)) = true := decide_eq_true c49
                                  by_cases c50 : x3_1.length + (a0.extract (x4_1 : Int).toNat ((wrap64 (x4_1 + t197)) : Int).toNat).size < 140737488355328
                                  · rw [if_pos c50] at H
                                    have LMc50 := Aside0.mk c50
                                    clear c50
                                    obtain ⟨y234, hy234⟩ : ∃ y_ : List Int, y_ = (x3_1 ++ bytesOf (a0.extract (x4_1 : Int).toNat ((wrap64 (x4_1 + t197)) : Int).toNat)) := ⟨_, rfl⟩
                                    replace H : (sigilref4_Quote.l0 kj5 a0 y234 (wrap64 (x4_1 + t197))) = some r := by first | (rw [hy234]; with_reducible exact H) | (have H2_ := (Option.bind_some _ _).symm.trans H; rw [hy234]; with_reducible exact H2_) | (have H2_ := (Option.bind_some _ _).symm.trans H; with_reducible exact H2_) | with_reducible exact H | (rw [hy234]; exact H) | exact H
                                    have Ny234 := Aside0.mk hy234
                                    clear hy234
                                    have H' := Aside0.mk H
                                    clear H
                                    go_wp2_with (first | (at_builtin; refine print_append_str (w0 := w) w.heap.size rfl (.tmp 17) _ 33 9 5 rfl Tryd.underlying33 Tryd.underlying9 info5 u3 x3_1 (a0.extract (x4_1 : Int).toNat ((wrap64 (x4_1 + t197)) : Int).toNat) rfl rfl ?aO ?aB ?aS ?aL ?_; (case aB => exact (by repeat (first | (with_reducible first | exact HB.out | apply below_alloc | apply pw_below_drewN | apply below_drew1) | exact HB.out))); (case aO => exact (Kd.own_of_R (by (with_reducible repeat (first | apply Kd.R_alloc | apply Kd.R_drewN | apply Kd.R_drew)); exact HO_3.out))); (case aS => exact (below_size (by repeat (first | (with_reducible first | exact HB.out | apply below_alloc | apply pw_below_drewN | apply below_drew1) | exact HB.out)))); (case aL => have := LMc50.out; omega); intro v235 w51 ho0 hb hg; have ho := Kd.R_of_own (h1 := fun _ => rfl) (ok := fun _ => True) ho0 (fun _ _ => trivial); clear ho0; have hat := True.intro; rw [← Ny234.out] at ho; change Kd.R (Kd.int .u8) 5 w51 w.heap.size (fun _ => True) v235 y234 at ho; have n0_ := Aside0.mk (hb); have n1_ := Aside0.mk (ho); clear HB; clear HO_3; have HB := n0_; have HO236 := n1_; clear n0_ n1_; clear ho hb hg hat))
                                    go_roundg kj5
                                    case measure => have := HK1.out; have := HJ5.out; omega
                                    case rel => exact ⟨(y234), (wrap64 (x4_1 + t197)), (by first | rfl | (simp; done) | (simp [*]; done)), H', ⟨by have := HK1.out; have := HJ5.out; omega⟩, ⟨by (with_reducible repeat (first | apply Kd.R_alloc | apply Kd.R_drewN | apply Kd.R_drew)); exact HO236.out⟩, ⟨by repeat (first | (with_reducible first | exact HB.out | apply below_alloc | apply pw_below_drewN | apply below_drew1) | exact HB.out)⟩⟩
                                  · rw [if_neg c50] at H
                                    exact absurd H (by simp)
                                · rw [if_neg c49] at H
                                  exact absurd H (by simp)
                              · rw [if_neg c48] at H
                                exact absurd H (by simp)
                            · rw [if_neg c47] at H
                              exact absurd H (by simp)
        · rw [if_neg c3] at H
          exact absurd H (by simp)
      · rw [if_neg c2] at H
        have c2b0 : decide (x4_1 < (a0.size : Int)) = false := decide_eq_false c2
        clear c2
        by_cases c52 : 1 + (strOfNums x3_1).size ≤ 9223372036854775807
        · rw [if_pos c52] at H
          have c52b0 := eq_true c52
          have c52b1 : decide (1 + (strOfNums x3_1).size ≤ 9223372036854775807) = true := decide_eq_true c52
          try have c52b2 : (9223372036854775807 < 1 + (strOfNums x3_1).size) = False := eq_false (Nat.not_lt.2 c52)
          by_cases c53 : ((⟨#[34]⟩ : ByteArray) ++ (strOfNums x3_1)).size + 1 ≤ 9223372036854775807
          · rw [if_pos c53] at H
            have c53b0 := eq_true c53
            have c53b1 : decide (((⟨#[34]⟩ : ByteArray) ++ (strOfNums x3_1)).size + 1 ≤ 9223372036854775807) = true := decide_eq_true c53
            try have c53b2 : (9223372036854775807 < ((⟨#[34]⟩ : ByteArray) ++ (strOfNums x3_1)).size + 1) = False := eq_false (Nat.not_lt.2 c53)
            have c53b9 : (9223372036854775807 < 1 + (strOfNums x3_1).size + 1) = False := eq_false (by have hz_ := ByteArray.size_append (a := (⟨#[34]⟩ : ByteArray)) (b := strOfNums x3_1); have hy_ : (⟨#[34]⟩ : ByteArray).size = 1 := rfl; omega)
            obtain rfl := Option.some.inj H
            have hcv54 := own_string (P := Tryd.prog) Tryd.underlying33 Tryd.underlying5 Tryd.underlying9 (Kd.own_of_R HO_3.out)
            go_wp2
            go_ret
            exact ⟨by first | rfl | (simp [errW_none, errW_some] <;> rfl) | (simp [*, errW_none, errW_some] <;> rfl), by repeat (first | (with_reducible first | exact HB.out | apply below_alloc | apply pw_below_drewN | apply below_drew1) | exact HB.out)⟩
          · rw [if_neg c53] at H
            exact absurd H (by simp)
        · rw [if_neg c52] at H
          exact absurd H (by simp)

-- NOT PRINTED: function 4 (sigillaw4_ScanQuotes)

-- NOT PRINTED: function 7 (sigillaw4_ScanMany)

/-! ### sigillaw4_fill: function 22 -/
def sigillaw4_fill.f (a0 : Int) : Option (ByteArray) := (some (([(⟨#[32]⟩ : ByteArray), (⟨#[10]⟩ : ByteArray), (⟨#[9, 11, 12, 13, 32]⟩ : ByteArray), (⟨#[32, 47, 47, 32, 99, 32, 34, 32, 39, 10]⟩ : ByteArray), (⟨#[32, 47, 42, 32, 39, 32, 42, 32, 47, 32, 42, 47, 32]⟩ : ByteArray), (⟨#[32, 32, 47, 42, 42, 47]⟩ : ByteArray), (⟨#[32, 47, 42, 47, 42, 47]⟩ : ByteArray), (⟨#[32, 47, 47, 10, 47, 47, 10]⟩ : ByteArray)] : List ByteArray) : List ByteArray)).bind fun y237 => (if (y237.length : Int) = 0 then (none) else (if (Int.tmod a0 (y237.length : Int)) < 0 then (if 0 ≤ (wrap64 ((Int.tmod a0 (y237.length : Int)) + (y237.length : Int))) then (if (wrap64 ((Int.tmod a0 (y237.length : Int)) + (y237.length : Int))) < (y237.length : Int) then (some (rdOf ByteArray.empty y237 (wrap64 ((Int.tmod a0 (y237.length : Int)) + (y237.length : Int))))) else (none)) else (none)) else (if 0 ≤ (Int.tmod a0 (y237.length : Int)) then (if (Int.tmod a0 (y237.length : Int)) < (y237.length : Int) then (some (rdOf ByteArray.empty y237 (Int.tmod a0 (y237.length : Int)))) else (none)) else (none))))
set_option maxHeartbeats 8000000 in
set_option maxRecDepth 100000 in
theorem sigillaw4_fill.calls (a0 : Int) (r : ByteArray) (w : World) (h : sigillaw4_fill.f a0 = some r) :
    Calls Tryd.prog 22 #[.int .i64 a0] w fun e w' => e = .returned (.string r) ∧ Below w.heap.size w w' := by
  have HB := Aside0.mk (Below.refl w.heap.size w)
  have H : ((some (([(⟨#[32]⟩ : ByteArray), (⟨#[10]⟩ : ByteArray), (⟨#[9, 11, 12, 13, 32]⟩ : ByteArray), (⟨#[32, 47, 47, 32, 99, 32, 34, 32, 39, 10]⟩ : ByteArray), (⟨#[32, 47, 42, 32, 39, 32, 42, 32, 47, 32, 42, 47, 32]⟩ : ByteArray), (⟨#[32, 32, 47, 42, 42, 47]⟩ : ByteArray), (⟨#[32, 47, 42, 47, 42, 47]⟩ : ByteArray), (⟨#[32, 47, 47, 10, 47, 47, 10]⟩ : ByteArray)] : List ByteArray) : List ByteArray)).bind fun y237 => (if (y237.length : Int) = 0 then (none) else (if (Int.tmod a0 (y237.length : Int)) < 0 then (if 0 ≤ (wrap64 ((Int.tmod a0 (y237.length : Int)) + (y237.length : Int))) then (if (wrap64 ((Int.tmod a0 (y237.length : Int)) + (y237.length : Int))) < (y237.length : Int) then (some (rdOf ByteArray.empty y237 (wrap64 ((Int.tmod a0 (y237.length : Int)) + (y237.length : Int))))) else (none)) else (none)) else (if 0 ≤ (Int.tmod a0 (y237.length : Int)) then (if (Int.tmod a0 (y237.length : Int)) < (y237.length : Int) then (some (rdOf ByteArray.empty y237 (Int.tmod a0 (y237.length : Int)))) else (none)) else (none))))) = some r := h
  clear h
  obtain ⟨y237, hy237⟩ : ∃ y_ : List ByteArray, y_ = (([(⟨#[32]⟩ : ByteArray), (⟨#[10]⟩ : ByteArray), (⟨#[9, 11, 12, 13, 32]⟩ : ByteArray), (⟨#[32, 47, 47, 32, 99, 32, 34, 32, 39, 10]⟩ : ByteArray), (⟨#[32, 47, 42, 32, 39, 32, 42, 32, 47, 32, 42, 47, 32]⟩ : ByteArray), (⟨#[32, 32, 47, 42, 42, 47]⟩ : ByteArray), (⟨#[32, 47, 42, 47, 42, 47]⟩ : ByteArray), (⟨#[32, 47, 47, 10, 47, 47, 10]⟩ : ByteArray)] : List ByteArray)) := ⟨_, rfl⟩
  replace H : (if (y237.length : Int) = 0 then (none) else (if (Int.tmod a0 (y237.length : Int)) < 0 then (if 0 ≤ (wrap64 ((Int.tmod a0 (y237.length : Int)) + (y237.length : Int))) then (if (wrap64 ((Int.tmod a0 (y237.length : Int)) + (y237.length : Int))) < (y237.length : Int) then (some (rdOf ByteArray.empty y237 (wrap64 ((Int.tmod a0 (y237.length : Int)) + (y237.length : Int))))) else (none)) else (none)) else (if 0 ≤ (Int.tmod a0 (y237.length : Int)) then (if (Int.tmod a0 (y237.length : Int)) < (y237.length : Int) then (some (rdOf ByteArray.empty y237 (Int.tmod a0 (y237.length : Int)))) else (none)) else (none)))) = some r := by first | (rw [hy237]; with_reducible exact H) | (have H2_ := (Option.bind_some _ _).symm.trans H; rw [hy237]; with_reducible exact H2_) | (have H2_ := (Option.bind_some _ _).symm.trans H; with_reducible exact H2_) | with_reducible exact H | (rw [hy237]; exact H) | exact H
  have Ny237 := Aside0.mk hy237
  clear hy237
  by_cases c2 : (y237.length : Int) = 0
  · rw [if_pos c2] at H
    exact absurd H (by simp)
  · rw [if_neg c2] at H
    have c2b0 : ((y237.length : Int) == 0) = false := beq_eq_false_iff_ne.mpr c2
    have c2b1 : ((y237.length : Int) != 0) = true := bne_iff_ne.mpr c2
    have c2b2 : ¬ (y237 = []) := fun h_ => c2 (by rw [h_]; rfl)
    by_cases c3 : (Int.tmod a0 (y237.length : Int)) < 0
    · rw [if_pos c3] at H
      have c3b0 : decide ((Int.tmod a0 (y237.length : Int)) < 0) = true := decide_eq_true c3
      clear c3
      obtain ⟨ji4, hji4⟩ : ∃ j_ : Int, (wrap64 ((Int.tmod a0 (y237.length : Int)) + (y237.length : Int))) = j_ := ⟨_, rfl⟩
      replace H : (if 0 ≤ (ji4) then (if (ji4) < (y237.length : Int) then (some (rdOf ByteArray.empty y237 (ji4))) else (none)) else (none)) = some r := by first | (rw [hji4] at H; exact H) | (simp only [hji4] at H ⊢; exact H)
      have hji4w : (IntKind.i64.wrap ((Int.tmod a0 (y237.length : Int)) + (y237.length : Int))) = ji4 := (i64_w _).trans hji4
      by_cases c5 : 0 ≤ (ji4)
      · rw [if_pos c5] at H
        have c5b0 : decide (0 ≤ (ji4)) = true := decide_eq_true c5
        clear c5
        by_cases c6 : (ji4) < (y237.length : Int)
        · rw [if_pos c6] at H
          have c6b0 : decide ((ji4) < (y237.length : Int)) = true := decide_eq_true c6
          clear c6
          obtain rfl := Option.some.inj H
          go_enter Tryd.func22, Tryd.ntmps22
          go_wp2_with (first | ((with_reducible refine gate_dst (N := 4) rfl ?_); refine Kd.R_lit Kd.string _ 9 ?hg (N := 4) ?hd (xs := ([(⟨#[32]⟩ : ByteArray), (⟨#[10]⟩ : ByteArray), (⟨#[9, 11, 12, 13, 32]⟩ : ByteArray), (⟨#[32, 47, 47, 32, 99, 32, 34, 32, 39, 10]⟩ : ByteArray), (⟨#[32, 47, 42, 32, 39, 32, 42, 32, 47, 32, 42, 47, 32]⟩ : ByteArray), (⟨#[32, 32, 47, 42, 42, 47]⟩ : ByteArray), (⟨#[32, 47, 42, 47, 42, 47]⟩ : ByteArray), (⟨#[32, 47, 47, 10, 47, 47, 10]⟩ : ByteArray)] : List ByteArray)) (inner := [.string (⟨#[32]⟩ : ByteArray), .string (⟨#[10]⟩ : ByteArray), .string (⟨#[9, 11, 12, 13, 32]⟩ : ByteArray), .string (⟨#[32, 47, 47, 32, 99, 32, 34, 32, 39, 10]⟩ : ByteArray), .string (⟨#[32, 47, 42, 32, 39, 32, 42, 32, 47, 32, 42, 47, 32]⟩ : ByteArray), .string (⟨#[32, 32, 47, 42, 42, 47]⟩ : ByteArray), .string (⟨#[32, 47, 42, 47, 42, 47]⟩ : ByteArray), .string (⟨#[32, 47, 47, 10, 47, 47, 10]⟩ : ByteArray)]) (ok := fun _ => True) (okp := fun _ => True) ?hr ?hp (fun _ hk => hk) trivial (Below.refl _ _) (Nat.le_refl _) (by simp) ?_; (case hd => rfl); (case hg => rfl); (case hr => first | (go_simp; done) | (go_simp; rfl)); (case hp => exact (Reps.one (show Kd.M Kd.string _ _ _ (⟨#[32]⟩ : ByteArray) [.string (⟨#[32]⟩ : ByteArray)] from rfl) (Reps.one (show Kd.M Kd.string _ _ _ (⟨#[10]⟩ : ByteArray) [.string (⟨#[10]⟩ : ByteArray)] from rfl) (Reps.one (show Kd.M Kd.string _ _ _ (⟨#[9, 11, 12, 13, 32]⟩ : ByteArray) [.string (⟨#[9, 11, 12, 13, 32]⟩ : ByteArray)] from rfl) (Reps.one (show Kd.M Kd.string _ _ _ (⟨#[32, 47, 47, 32, 99, 32, 34, 32, 39, 10]⟩ : ByteArray) [.string (⟨#[32, 47, 47, 32, 99, 32, 34, 32, 39, 10]⟩ : ByteArray)] from rfl) (Reps.one (show Kd.M Kd.string _ _ _ (⟨#[32, 47, 42, 32, 39, 32, 42, 32, 47, 32, 42, 47, 32]⟩ : ByteArray) [.string (⟨#[32, 47, 42, 32, 39, 32, 42, 32, 47, 32, 42, 47, 32]⟩ : ByteArray)] from rfl) (Reps.one (show Kd.M Kd.string _ _ _ (⟨#[32, 32, 47, 42, 42, 47]⟩ : ByteArray) [.string (⟨#[32, 32, 47, 42, 42, 47]⟩ : ByteArray)] from rfl) (Reps.one (show Kd.M Kd.string _ _ _ (⟨#[32, 47, 42, 47, 42, 47]⟩ : ByteArray) [.string (⟨#[32, 47, 42, 47, 42, 47]⟩ : ByteArray)] from rfl) (Reps.one (show Kd.M Kd.string _ _ _ (⟨#[32, 47, 47, 10, 47, 47, 10]⟩ : ByteArray) [.string (⟨#[32, 47, 47, 10, 47, 47, 10]⟩ : ByteArray)] from rfl) (Reps.none _ _)))))))))); intro v238 w7 ho8 hb hg_ hnew_; clear hg_ hnew_; (first | rw [← Ny237.out] at ho8 | (simp only [Int.reduceToNat] at ho8; rw [← Ny237.out] at ho8)); have n0_ := Aside0.mk (Kd.R_lower ho8 (below_size (by repeat (first | (with_reducible first | exact HB.out | apply below_alloc | apply pw_below_drewN | apply below_drew1) | exact HB.out)))); have n1_ := Aside0.mk (below_step (by repeat (first | (with_reducible first | exact HB.out | apply below_alloc | apply pw_below_drewN | apply below_drew1) | exact HB.out)) hb); clear HB; have HO239 := n0_; have HB := n1_; clear n0_ n1_; clear hb ho8; obtain ⟨Ao9, co9, eo9⟩ := Kd.R_slice HO239.out; subst eo9; have p240 : 0 ≤ ((ji4) : Int) := of_decide_eq_true (by first | (with_reducible assumption) | assumption); have q240 : (ji4) < (y237.length : Int) := of_decide_eq_true (by first | (with_reducible assumption) | assumption); obtain ⟨ad240, e240, hx240_0⟩ := Kd.at_string (Kd.R_reads' HO239.out).2.2 (ji4) p240 q240; cases e240; replace p240 := eq_true p240; replace q240 := eq_true q240))
          go_ret
          exact ⟨by first | rfl | (simp [errW_none, errW_some] <;> rfl) | (simp only [← hji4]; first | rfl | (simp [errW_none, errW_some] <;> rfl)) | (simp [*, errW_none, errW_some] <;> rfl), by repeat (first | (with_reducible first | exact HB.out | apply below_alloc | apply pw_below_drewN | apply below_drew1) | exact HB.out)⟩
        · rw [if_neg c6] at H
          exact absurd H (by simp)
      · rw [if_neg c5] at H
        exact absurd H (by simp)
    · rw [if_neg c3] at H
      have c3b0 : decide ((Int.tmod a0 (y237.length : Int)) < 0) = false := decide_eq_false c3
      clear c3
      obtain ⟨ji10, hji10⟩ : ∃ j_ : Int, (Int.tmod a0 (y237.length : Int)) = j_ := ⟨_, rfl⟩
      replace H : (if 0 ≤ (ji10) then (if (ji10) < (y237.length : Int) then (some (rdOf ByteArray.empty y237 (ji10))) else (none)) else (none)) = some r := by first | (rw [hji10] at H; exact H) | (simp only [hji10] at H ⊢; exact H)
      (try rw [hji10] at c3b0)
      by_cases c11 : 0 ≤ (ji10)
      · rw [if_pos c11] at H
        have c11b0 : decide (0 ≤ (ji10)) = true := decide_eq_true c11
        clear c11
        by_cases c12 : (ji10) < (y237.length : Int)
        · rw [if_pos c12] at H
          have c12b0 : decide ((ji10) < (y237.length : Int)) = true := decide_eq_true c12
          clear c12
          obtain rfl := Option.some.inj H
          go_enter Tryd.func22, Tryd.ntmps22
          go_wp2_with (first | ((with_reducible refine gate_dst (N := 4) rfl ?_); refine Kd.R_lit Kd.string _ 9 ?hg (N := 4) ?hd (xs := ([(⟨#[32]⟩ : ByteArray), (⟨#[10]⟩ : ByteArray), (⟨#[9, 11, 12, 13, 32]⟩ : ByteArray), (⟨#[32, 47, 47, 32, 99, 32, 34, 32, 39, 10]⟩ : ByteArray), (⟨#[32, 47, 42, 32, 39, 32, 42, 32, 47, 32, 42, 47, 32]⟩ : ByteArray), (⟨#[32, 32, 47, 42, 42, 47]⟩ : ByteArray), (⟨#[32, 47, 42, 47, 42, 47]⟩ : ByteArray), (⟨#[32, 47, 47, 10, 47, 47, 10]⟩ : ByteArray)] : List ByteArray)) (inner := [.string (⟨#[32]⟩ : ByteArray), .string (⟨#[10]⟩ : ByteArray), .string (⟨#[9, 11, 12, 13, 32]⟩ : ByteArray), .string (⟨#[32, 47, 47, 32, 99, 32, 34, 32, 39, 10]⟩ : ByteArray), .string (⟨#[32, 47, 42, 32, 39, 32, 42, 32, 47, 32, 42, 47, 32]⟩ : ByteArray), .string (⟨#[32, 32, 47, 42, 42, 47]⟩ : ByteArray), .string (⟨#[32, 47, 42, 47, 42, 47]⟩ : ByteArray), .string (⟨#[32, 47, 47, 10, 47, 47, 10]⟩ : ByteArray)]) (ok := fun _ => True) (okp := fun _ => True) ?hr ?hp (fun _ hk => hk) trivial (Below.refl _ _) (Nat.le_refl _) (by simp) ?_; (case hd => rfl); (case hg => rfl); (case hr => first | (go_simp; done) | (go_simp; rfl)); (case hp => exact (Reps.one (show Kd.M Kd.string _ _ _ (⟨#[32]⟩ : ByteArray) [.string (⟨#[32]⟩ : ByteArray)] from rfl) (Reps.one (show Kd.M Kd.string _ _ _ (⟨#[10]⟩ : ByteArray) [.string (⟨#[10]⟩ : ByteArray)] from rfl) (Reps.one (show Kd.M Kd.string _ _ _ (⟨#[9, 11, 12, 13, 32]⟩ : ByteArray) [.string (⟨#[9, 11, 12, 13, 32]⟩ : ByteArray)] from rfl) (Reps.one (show Kd.M Kd.string _ _ _ (⟨#[32, 47, 47, 32, 99, 32, 34, 32, 39, 10]⟩ : ByteArray) [.string (⟨#[32, 47, 47, 32, 99, 32, 34, 32, 39, 10]⟩ : ByteArray)] from rfl) (Reps.one (show Kd.M Kd.string _ _ _ (⟨#[32, 47, 42, 32, 39, 32, 42, 32, 47, 32, 42, 47, 32]⟩ : ByteArray) [.string (⟨#[32, 47, 42, 32, 39, 32, 42, 32, 47, 32, 42, 47, 32]⟩ : ByteArray)] from rfl) (Reps.one (show Kd.M Kd.string _ _ _ (⟨#[32, 32, 47, 42, 42, 47]⟩ : ByteArray) [.string (⟨#[32, 32, 47, 42, 42, 47]⟩ : ByteArray)] from rfl) (Reps.one (show Kd.M Kd.string _ _ _ (⟨#[32, 47, 42, 47, 42, 47]⟩ : ByteArray) [.string (⟨#[32, 47, 42, 47, 42, 47]⟩ : ByteArray)] from rfl) (Reps.one (show Kd.M Kd.string _ _ _ (⟨#[32, 47, 47, 10, 47, 47, 10]⟩ : ByteArray) [.string (⟨#[32, 47, 47, 10, 47, 47, 10]⟩ : ByteArray)] from rfl) (Reps.none _ _)))))))))); intro v238 w13 ho14 hb hg_ hnew_; clear hg_ hnew_; (first | rw [← Ny237.out] at ho14 | (simp only [Int.reduceToNat] at ho14; rw [← Ny237.out] at ho14)); have n0_ := Aside0.mk (Kd.R_lower ho14 (below_size (by repeat (first | (with_reducible first | exact HB.out | apply below_alloc | apply pw_below_drewN | apply below_drew1) | exact HB.out)))); have n1_ := Aside0.mk (below_step (by repeat (first | (with_reducible first | exact HB.out | apply below_alloc | apply pw_below_drewN | apply below_drew1) | exact HB.out)) hb); clear HB; have HO239 := n0_; have HB := n1_; clear n0_ n1_; clear hb ho14; obtain ⟨Ao15, co15, eo15⟩ := Kd.R_slice HO239.out; subst eo15; have p241 : 0 ≤ ((ji10) : Int) := of_decide_eq_true (by first | (with_reducible assumption) | assumption); have q241 : (ji10) < (y237.length : Int) := of_decide_eq_true (by first | (with_reducible assumption) | assumption); obtain ⟨ad241, e241, hx241_0⟩ := Kd.at_string (Kd.R_reads' HO239.out).2.2 (ji10) p241 q241; cases e241; replace p241 := eq_true p241; replace q241 := eq_true q241))
          go_ret
          exact ⟨by first | rfl | (simp [errW_none, errW_some] <;> rfl) | (simp only [← hji10]; first | rfl | (simp [errW_none, errW_some] <;> rfl)) | (simp [*, errW_none, errW_some] <;> rfl), by repeat (first | (with_reducible first | exact HB.out | apply below_alloc | apply pw_below_drewN | apply below_drew1) | exact HB.out)⟩
        · rw [if_neg c12] at H
          exact absurd H (by simp)
      · rw [if_neg c11] at H
        exact absurd H (by simp)

/-! ### sigillaw4_kinds: function 23 -/
def sigillaw4_kinds.l0 : Nat → List (S40) → List (S40) → Int → Option (Bool)
  | 0, _, _, _ => none
  | k + 1, x0, x1, x5 => if x5 < (x0.length : Int) then (if 0 ≤ x5 then (if x5 < (x1.length : Int) then (if ((rd_T40 x0 x5).f0) = ((rd_T40 x1 x5).f0) then (if ((rd_T40 x0 x5).f2).toList = ((rd_T40 x1 x5).f2).toList then (sigillaw4_kinds.l0 k x0 x1 (wrap64 (x5 + 1))) else (some false)) else (some false)) else (none)) else (none)) else (some true)
def sigillaw4_kinds.f (k : Nat) (l0 : List (S40)) (l1 : List (S40)) : Option (Bool) := if (l0.length : Int) = (l1.length : Int) then (sigillaw4_kinds.l0 k l0 l1 0) else (some false)
theorem sigillaw4_kinds.mono_l : ∀ k, (∀ y0 y1 y2, LeO (sigillaw4_kinds.l0 k y0 y1 y2) (sigillaw4_kinds.l0 (k + 1) y0 y1 y2))
  | 0 => fun _ _ _ r h => by simp [sigillaw4_kinds.l0] at h
  | k + 1 => by
    have ih0 := sigillaw4_kinds.mono_l k
    · intro y0 y1 y2
      unfold sigillaw4_kinds.l0
      repeat' first
      | (with_reducible exact ih0 _ _ _)
      | (with_reducible exact LeO.refl _)
      | (with_reducible exact LeO.none _)
      | (with_reducible refine LeO.ite ?_ ?_)
      | (with_reducible refine LeO.bind ?_ (fun _ => ?_))
      | exact ih0 _ _ _
      | exact LeO.none _
      | refine LeO.ite ?_ ?_
      | refine LeO.bind ?_ (fun _ => ?_)
theorem sigillaw4_kinds.mono : ∀ a0 a1 k, LeO (sigillaw4_kinds.f k a0 a1) (sigillaw4_kinds.f (k + 1) a0 a1) := by
  intro a0 a1 k
  have ih0 := sigillaw4_kinds.mono_l k
  unfold sigillaw4_kinds.f
  repeat' first
      | (with_reducible exact ih0 _ _ _)
      | (with_reducible exact LeO.refl _)
      | (with_reducible exact LeO.none _)
      | (with_reducible refine LeO.ite ?_ ?_)
      | (with_reducible refine LeO.bind ?_ (fun _ => ?_))
      | exact ih0 _ _ _
      | exact LeO.none _
      | refine LeO.ite ?_ ?_
      | refine LeO.bind ?_ (fun _ => ?_)
set_option maxHeartbeats 8000000 in
set_option maxRecDepth 100000 in
theorem sigillaw4_kinds.calls (k : Nat) (A0 : Option Addr) (c0 : Nat) (l0 : List (S40)) (A1 : Option Addr) (c1 : Nat) (l1 : List (S40)) (r : Bool) (w : World) (hr0 : Kd.C k40 w A0 l0.length l0) (hc0 : l0.length ≤ c0) (hr1 : Kd.C k40 w A1 l1.length l1) (hc1 : l1.length ≤ c1) (h : sigillaw4_kinds.f k l0 l1 = some r) :
    Calls Tryd.prog 23 #[.slice A0 l0.length c0, .slice A1 l1.length c1] w fun e w' => e = .returned (.bool r) ∧ Drawn0 w w' := by
  have HR0 := Aside0.mk hr0
  have HC0 := Aside0.mk hc0
  clear hr0 hc0
  have HR1 := Aside0.mk hr1
  have HC1 := Aside0.mk hc1
  clear hr1 hc1
  have H : (if (l0.length : Int) = (l1.length : Int) then (sigillaw4_kinds.l0 k l0 l1 0) else (some false)) = some r := h
  clear h
  by_cases c3 : (l0.length : Int) = (l1.length : Int)
  · rw [if_pos c3] at H
    have c3b0 : ((l0.length : Int) == (l1.length : Int)) = true := beq_iff_eq.mpr c3
    have c3b1 : ((l0.length : Int) != (l1.length : Int)) = false := bne_eq_false_iff_eq.mpr c3
    have c3b2 : (l0.length == l1.length) = true := by first | simpa using c3 | (simp at c3 ⊢; omega)
    clear c3
    have H' := Aside0.mk H
    clear H
    go_enter Tryd.func23, Tryd.ntmps23
    go_wp2
    repeat (go_quiet (fail); try go_wp2)
    go_loopg [5] k (fun kq v5 w' => ∃ (x5_1 : Int), v5 = .int .i64 x5_1 ∧ Aside0 (sigillaw4_kinds.l0 kq l0 l1 x5_1 = some r) ∧ Aside0 (kq ≤ k) ∧ Drawn0 w w')
    case atStart => exact ⟨(0), (by first | rfl | (simp; done) | (simp [*]; done)), H', ⟨Nat.le_refl _⟩, by repeat (first | exact Drawn0.refl _ | apply Drawn0.step)⟩
    case round =>
      clear H'
      try clear c1
      try clear c2
      try clear p2
      try clear c3
      try clear c3b0
      try clear c3b1
      try clear c3b2
      obtain ⟨x5_1, rfl, HA, HK1, ⟨m1, rfl⟩⟩ := hrel
      cases gk with
      | zero => exact absurd HA.out (by simp [sigillaw4_kinds.l0])
      | succ k1 =>
        have H := HA.out
        clear HA
        simp only [sigillaw4_kinds.l0] at H
        by_cases c4 : x5_1 < (l0.length : Int)
        · rw [if_pos c4] at H
          have c4b0 : decide (x5_1 < (l0.length : Int)) = true := decide_eq_true c4
          clear c4
          by_cases c5 : 0 ≤ x5_1
          · rw [if_pos c5] at H
            have c5b0 : decide (0 ≤ x5_1) = true := decide_eq_true c5
            clear c5
            by_cases c6 : x5_1 < (l1.length : Int)
            · rw [if_pos c6] at H
              have c6b0 : decide (x5_1 < (l1.length : Int)) = true := decide_eq_true c6
              clear c6
              by_cases c7 : ((rd_T40 l0 x5_1).f0) = ((rd_T40 l1 x5_1).f0)
              · rw [if_pos c7] at H
                have c7b0 : (((rd_T40 l0 x5_1).f0) == ((rd_T40 l1 x5_1).f0)) = true := beq_iff_eq.mpr c7
                have c7b1 : (((rd_T40 l0 x5_1).f0) != ((rd_T40 l1 x5_1).f0)) = false := bne_eq_false_iff_eq.mpr c7
                clear c7
                by_cases c8 : ((rd_T40 l0 x5_1).f2).toList = ((rd_T40 l1 x5_1).f2).toList
                · rw [if_pos c8] at H
                  have c8b0 : (((rd_T40 l0 x5_1).f2).toList == ((rd_T40 l1 x5_1).f2).toList) = true := beq_iff_eq.mpr c8
                  have c8b1 : (((rd_T40 l0 x5_1).f2).toList != ((rd_T40 l1 x5_1).f2).toList) = false := bne_eq_false_iff_eq.mpr c8
                  clear c8
                  have H' := Aside0.mk H
                  clear H
                  have p242 : 0 ≤ (x5_1 : Int) := of_decide_eq_true (by first | (with_reducible assumption) | assumption)
                  have q242 : x5_1 < (l0.length : Int) := of_decide_eq_true (by first | (with_reducible assumption) | assumption)
                  obtain ⟨ad242, e242, hx242_0, hx242_1, hx242_2⟩ := at_T40 HR0.out x5_1 p242 q242
                  cases e242
                  replace p242 := eq_true p242
                  replace q242 := eq_true q242
                  have p243 : 0 ≤ (x5_1 : Int) := of_decide_eq_true (by first | (with_reducible assumption) | assumption)
                  have q243 : x5_1 < (l1.length : Int) := of_decide_eq_true (by first | (with_reducible assumption) | assumption)
                  obtain ⟨ad243, e243, hx243_0, hx243_1, hx243_2⟩ := at_T40 HR1.out x5_1 p243 q243
                  cases e243
                  replace p243 := eq_true p243
                  replace q243 := eq_true q243
                  have p244 : 0 ≤ (x5_1 : Int) := of_decide_eq_true (by first | (with_reducible assumption) | assumption)
                  have q244 : x5_1 < (l0.length : Int) := of_decide_eq_true (by first | (with_reducible assumption) | assumption)
                  obtain ⟨ad244, e244, hx244_0, hx244_1, hx244_2⟩ := at_T40 HR0.out x5_1 p244 q244
                  obtain rfl : ad242 = ad244 := (by injection e244)
                  replace p244 := eq_true p244
                  replace q244 := eq_true q244
                  have p245 : 0 ≤ (x5_1 : Int) := of_decide_eq_true (by first | (with_reducible assumption) | assumption)
                  have q245 : x5_1 < (l1.length : Int) := of_decide_eq_true (by first | (with_reducible assumption) | assumption)
                  obtain ⟨ad245, e245, hx245_0, hx245_1, hx245_2⟩ := at_T40 HR1.out x5_1 p245 q245
                  obtain rfl : ad243 = ad245 := (by injection e245)
                  replace p245 := eq_true p245
                  replace q245 := eq_true q245
                  go_wp2
                  repeat (go_quiet (fail); try go_wp2)
                  go_roundg k1
                  case measure => have := HK1.out; omega
                  case rel => exact ⟨(wrap64 (x5_1 + 1)), (by first | rfl | (simp; done) | (simp [*]; done)), H', ⟨by have := HK1.out; omega⟩, by repeat (first | exact Drawn0.refl _ | apply Drawn0.step)⟩
                · rw [if_neg c8] at H
                  have c8b0 : (((rd_T40 l0 x5_1).f2).toList == ((rd_T40 l1 x5_1).f2).toList) = false := beq_eq_false_iff_ne.mpr c8
                  have c8b1 : (((rd_T40 l0 x5_1).f2).toList != ((rd_T40 l1 x5_1).f2).toList) = true := bne_iff_ne.mpr c8
                  obtain rfl := Option.some.inj H
                  have p242 : 0 ≤ (x5_1 : Int) := of_decide_eq_true (by first | (with_reducible assumption) | assumption)
                  have q242 : x5_1 < (l0.length : Int) := of_decide_eq_true (by first | (with_reducible assumption) | assumption)
                  obtain ⟨ad242, e242, hx242_0, hx242_1, hx242_2⟩ := at_T40 HR0.out x5_1 p242 q242
                  cases e242
                  replace p242 := eq_true p242
                  replace q242 := eq_true q242
                  have p243 : 0 ≤ (x5_1 : Int) := of_decide_eq_true (by first | (with_reducible assumption) | assumption)
                  have q243 : x5_1 < (l1.length : Int) := of_decide_eq_true (by first | (with_reducible assumption) | assumption)
                  obtain ⟨ad243, e243, hx243_0, hx243_1, hx243_2⟩ := at_T40 HR1.out x5_1 p243 q243
                  cases e243
                  replace p243 := eq_true p243
                  replace q243 := eq_true q243
                  have p244 : 0 ≤ (x5_1 : Int) := of_decide_eq_true (by first | (with_reducible assumption) | assumption)
                  have q244 : x5_1 < (l0.length : Int) := of_decide_eq_true (by first | (with_reducible assumption) | assumption)
                  obtain ⟨ad244, e244, hx244_0, hx244_1, hx244_2⟩ := at_T40 HR0.out x5_1 p244 q244
                  obtain rfl : ad242 = ad244 := (by injection e244)
                  replace p244 := eq_true p244
                  replace q244 := eq_true q244
                  have p245 : 0 ≤ (x5_1 : Int) := of_decide_eq_true (by first | (with_reducible assumption) | assumption)
                  have q245 : x5_1 < (l1.length : Int) := of_decide_eq_true (by first | (with_reducible assumption) | assumption)
                  obtain ⟨ad245, e245, hx245_0, hx245_1, hx245_2⟩ := at_T40 HR1.out x5_1 p245 q245
                  obtain rfl : ad243 = ad245 := (by injection e245)
                  replace p245 := eq_true p245
                  replace q245 := eq_true q245
                  go_wp2
                  repeat (go_quiet (fail); try go_wp2)
                  go_ret
                  exact ⟨by first | rfl | (simp; done) | (simp [*]; done), by repeat (first | exact Drawn0.refl _ | apply Drawn0.step)⟩
              · rw [if_neg c7] at H
                have c7b0 : (((rd_T40 l0 x5_1).f0) == ((rd_T40 l1 x5_1).f0)) = false := beq_eq_false_iff_ne.mpr c7
                have c7b1 : (((rd_T40 l0 x5_1).f0) != ((rd_T40 l1 x5_1).f0)) = true := bne_iff_ne.mpr c7
                obtain rfl := Option.some.inj H
                have p242 : 0 ≤ (x5_1 : Int) := of_decide_eq_true (by first | (with_reducible assumption) | assumption)
                have q242 : x5_1 < (l0.length : Int) := of_decide_eq_true (by first | (with_reducible assumption) | assumption)
                obtain ⟨ad242, e242, hx242_0, hx242_1, hx242_2⟩ := at_T40 HR0.out x5_1 p242 q242
                cases e242
                replace p242 := eq_true p242
                replace q242 := eq_true q242
                have p243 : 0 ≤ (x5_1 : Int) := of_decide_eq_true (by first | (with_reducible assumption) | assumption)
                have q243 : x5_1 < (l1.length : Int) := of_decide_eq_true (by first | (with_reducible assumption) | assumption)
                obtain ⟨ad243, e243, hx243_0, hx243_1, hx243_2⟩ := at_T40 HR1.out x5_1 p243 q243
                cases e243
                replace p243 := eq_true p243
                replace q243 := eq_true q243
                go_wp2
                repeat (go_quiet (fail); try go_wp2)
                go_ret
                exact ⟨by first | rfl | (simp; done) | (simp [*]; done), by repeat (first | exact Drawn0.refl _ | apply Drawn0.step)⟩
            · rw [if_neg c6] at H
              exact absurd H (by simp)
          · rw [if_neg c5] at H
            exact absurd H (by simp)
        · rw [if_neg c4] at H
          have c4b0 : decide (x5_1 < (l0.length : Int)) = false := decide_eq_false c4
          clear c4
          obtain rfl := Option.some.inj H
          go_wp2
          repeat (go_quiet (fail); try go_wp2)
          go_ret
          exact ⟨by first | rfl | (simp; done) | (simp [*]; done), by repeat (first | exact Drawn0.refl _ | apply Drawn0.step)⟩
  · rw [if_neg c3] at H
    have c3b0 : ((l0.length : Int) == (l1.length : Int)) = false := beq_eq_false_iff_ne.mpr c3
    have c3b1 : ((l0.length : Int) != (l1.length : Int)) = true := bne_iff_ne.mpr c3
    have c3b2 : (l0.length == l1.length) = false := by first | simpa using c3 | (simp at c3 ⊢; omega)
    obtain rfl := Option.some.inj H
    go_enter Tryd.func23, Tryd.ntmps23
    go_wp2
    repeat (go_quiet (fail); try go_wp2)
    go_ret
    exact ⟨by first | rfl | (simp; done) | (simp [*]; done), by repeat (first | exact Drawn0.refl _ | apply Drawn0.step)⟩

-- NOT PRINTED: function 8 (sigillaw4_ScanPlaces)

end Go.Proofs.YtabgnbbljjohdaaRDoor.A
