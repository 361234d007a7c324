-- THIS SESSION'S TEXT: written by plugprint.py out of the translation, with contracts proved by hand.
import Derived.Test.YtabgnbbljjohdaaRDoorAx0
import Derived.Test.YtabgnbbljjohdaaRDoorAx2
import Derived.Test.YtabgnbbljjohdaaRDoorAx8
import Derived.Test.YtabgnbbljjohdaaRDoorAx14
import Derived.Test.YtabgnbbljjohdaaRDoorAx16
namespace Go.Proofs.YtabgnbbljjohdaaRDoor.A
open Go.RowKit Go.Proofs.YtabgnbbljjohdaaRDoorW.PrintWords Go.Proofs.YtabgnbbljjohdaaRDoorW.PrintLast Go.Proofs.YtabgnbbljjohdaaRDoorW.PrintMore
attribute [local go_sem] max2_int min2_int max_two min_two max_three min_three max_four min_four   -- for this text's walks alone
set_option linter.unusedVariables false
set_option linter.unusedSimpArgs false

/-! ### sigilref4_Tokens: function 43 -/
def sigilref4_Tokens.l0 : Nat → ByteArray → List (S40) → Int → Option ((List (S40)) × Int × Int)
  | 0, _, _, _ => none
  | k + 1, x0, x6, x7 => (sigilref4_pass.f k x0 x7).bind fun bt182 => (if bt182.2 = true then (if bt182.1 = (x0.size : Int) then (if x6.length < 4398046511104 then (some ((x6 ++ [(⟨5, bt182.1, (⟨#[]⟩ : ByteArray)⟩ : S40)]), 0, 0)) else (none)) else (if (x6.length : Int) = 16383 then (some (([] : List (S40)), bt182.1, 45)) else ((sigilref4_one.f k x0 bt182.1).bind fun bt187 => (if bt187.2.2 = 0 then (if 0 ≤ bt182.1 then (if bt182.1 ≤ bt187.2.1 then (if bt187.2.1 ≤ (x0.size : Int) then (if x6.length < 4398046511104 then (sigilref4_Tokens.l0 k x0 (x6 ++ [(⟨bt187.1, bt182.1, x0.extract (bt182.1 : Int).toNat (bt187.2.1 : Int).toNat⟩ : S40)]) bt187.2.1) else (none)) else (none)) else (none)) else (none)) else (some (([] : List (S40)), bt182.1, bt187.2.2)))))) else (some (([] : List (S40)), bt182.1, 43)))
def sigilref4_Tokens.f (k : Nat) (a0 : ByteArray) : Option ((List (S40)) × Int × Int) := if (a0.size : Int) > 65536 then (some (([] : List (S40)), 0, 2)) else ((sigilref4_Utf8.f k a0).bind fun t181 => (if t181 ≥ 0 then (some (([] : List (S40)), t181, 44)) else (sigilref4_Tokens.l0 k a0 ([] : List (S40)) 0)))
theorem sigilref4_Tokens.mono_l : ∀ k, (∀ y0 y1 y2, LeO (sigilref4_Tokens.l0 k y0 y1 y2) (sigilref4_Tokens.l0 (k + 1) y0 y1 y2))
  | 0 => fun _ _ _ r h => by simp [sigilref4_Tokens.l0] at h
  | k + 1 => by
    have ih0 := sigilref4_Tokens.mono_l k
    · intro y0 y1 y2
      unfold sigilref4_Tokens.l0
      repeat' first
      | (with_reducible exact ih0 _ _ _)
      | (with_reducible exact sigilref4_Utf8.mono _ _)
      | (with_reducible exact sigilref4_one.mono _ _ _)
      | (with_reducible exact sigilref4_pass.mono _ _ _)
      | (with_reducible exact LeO.refl _)
      | (with_reducible exact LeO.none _)
      | (with_reducible refine LeO.ite ?_ ?_)
      | (with_reducible refine LeO.bind ?_ (fun _ => ?_))
      | exact ih0 _ _ _
      | exact sigilref4_Utf8.mono _ _
      | exact sigilref4_one.mono _ _ _
      | exact sigilref4_pass.mono _ _ _
      | exact LeO.none _
      | refine LeO.ite ?_ ?_
      | refine LeO.bind ?_ (fun _ => ?_)
theorem sigilref4_Tokens.mono : ∀ a0 k, LeO (sigilref4_Tokens.f k a0) (sigilref4_Tokens.f (k + 1) a0) := by
  intro a0 k
  have ih0 := sigilref4_Tokens.mono_l k
  unfold sigilref4_Tokens.f
  repeat' first
      | (with_reducible exact ih0 _ _ _)
      | (with_reducible exact sigilref4_Utf8.mono _ _)
      | (with_reducible exact sigilref4_one.mono _ _ _)
      | (with_reducible exact sigilref4_pass.mono _ _ _)
      | (with_reducible exact LeO.refl _)
      | (with_reducible exact LeO.none _)
      | (with_reducible refine LeO.ite ?_ ?_)
      | (with_reducible refine LeO.bind ?_ (fun _ => ?_))
      | exact ih0 _ _ _
      | exact sigilref4_Utf8.mono _ _
      | exact sigilref4_one.mono _ _ _
      | exact sigilref4_pass.mono _ _ _
      | exact LeO.none _
      | refine LeO.ite ?_ ?_
      | refine LeO.bind ?_ (fun _ => ?_)
set_option maxHeartbeats 8000000 in
set_option maxRecDepth 100000 in
theorem sigilref4_Tokens.calls (k : Nat) (a0 : ByteArray) (r1 : List (S40)) (r2 : Int) (r3 : Int) (w : World) (h : sigilref4_Tokens.f k a0 = some (r1, r2, r3)) :
    Calls Tryd.prog 43 #[.string a0] w fun e w' => ∃ v0_ : Value, e = .returned (.tuple #[v0_, .int .i64 r2, .int .i64 r3]) ∧ Kd.R k40 40 w' w.heap.size (fun _ => True) v0_ r1 ∧ Below w.heap.size w w' := by
  have hu40 := Tryd.underlying40
  have HB := Aside0.mk (Below.refl w.heap.size w)
  have H : (if (a0.size : Int) > 65536 then (some (([] : List (S40)), 0, 2)) else ((sigilref4_Utf8.f k a0).bind fun t181 => (if t181 ≥ 0 then (some (([] : List (S40)), t181, 44)) else (sigilref4_Tokens.l0 k a0 ([] : List (S40)) 0)))) = some (r1, r2, r3) := h
  clear h
  by_cases c2 : (a0.size : Int) > 65536
  · rw [if_pos c2] at H
    have c2b0 : decide (65536 < (a0.size : Int)) = true := decide_eq_true c2
    have c2b1 : decide (65536 < a0.size) = true := decide_eq_true (by omega)
    clear c2
    simp only [Option.some.injEq, Prod.mk.injEq] at H
    obtain ⟨rfl, rfl, rfl⟩ := H
    go_enter Tryd.func43, Tryd.ntmps43
    go_wp2
    go_ret3
    exact ⟨_, by first | rfl | (simp [errW_none, errW_some] <;> rfl) | (simp [*, errW_none, errW_some] <;> rfl), by first | exact Kd.R_nil _ _ _ _ _ | exact Kd.N_nil _ _ _ _ _ | exact Kd.V_nil _ _ _ _ _ | exact Kd.Q_nil _ _ _ _ _ | exact Kd.S_nil _ _ _ _ _, by repeat (first | (with_reducible first | exact HB.out | apply below_alloc | apply pw_below_drewN | apply below_drew1) | exact HB.out)⟩
  · rw [if_neg c2] at H
    have c2b0 : decide (65536 < (a0.size : Int)) = false := decide_eq_false c2
    have c2b1 : decide (65536 < a0.size) = false := decide_eq_false (by omega)
    clear c2
    replace H := Option.bind_eq_some_iff.mp H
    obtain ⟨t181, A30, H⟩ := H
    replace H : (if t181 ≥ 0 then (some (([] : List (S40)), t181, 44)) else (sigilref4_Tokens.l0 k a0 ([] : List (S40)) 0)) = some (r1, r2, r3) := H
    have A3 := Aside0.mk A30
    clear A30
    by_cases c4 : t181 ≥ 0
    · rw [if_pos c4] at H
      have c4b0 : decide (0 ≤ t181) = true := decide_eq_true c4
      clear c4
      simp only [Option.some.injEq, Prod.mk.injEq] at H
      obtain ⟨rfl, rfl, rfl⟩ := H
      go_enter Tryd.func43, Tryd.ntmps43
      go_wp2_with (first | ((with_reducible refine gate_callee (f := 31) rfl ?_); refine goesL_ (some 17) rfl rfl Tryd.func31 (by kernel_rfl) rfl #[.string a0] rfl (by (try simp only [List.map_toArray, List.map_cons, List.map_nil]); first | done | rfl | (simp only [List.length_drop, List.length_take]; rfl)) ?_; (with_reducible refine (sigilref4_Utf8.calls k a0 t181 _ A3.out).mono ?_); rintro e w' ⟨rfl, ⟨nd, rfl⟩⟩; refine ⟨_, rfl, ?_⟩))
      go_ret3
      exact ⟨_, by first | rfl | (simp [errW_none, errW_some] <;> rfl) | (simp [*, errW_none, errW_some] <;> rfl), by first | exact Kd.R_nil _ _ _ _ _ | exact Kd.N_nil _ _ _ _ _ | exact Kd.V_nil _ _ _ _ _ | exact Kd.Q_nil _ _ _ _ _ | exact Kd.S_nil _ _ _ _ _, by repeat (first | (with_reducible first | exact HB.out | apply below_alloc | apply pw_below_drewN | apply below_drew1) | exact HB.out)⟩
    · rw [if_neg c4] at H
      have c4b0 : decide (0 ≤ t181) = false := decide_eq_false c4
      clear c4
      have H' := Aside0.mk H
      clear H
      go_enter Tryd.func43, Tryd.ntmps43
      go_wp2_with (first | ((with_reducible refine gate_callee (f := 31) rfl ?_); refine goesL_ (some 17) rfl rfl Tryd.func31 (by kernel_rfl) rfl #[.string a0] rfl (by (try simp only [List.map_toArray, List.map_cons, List.map_nil]); first | done | rfl | (simp only [List.length_drop, List.length_take]; rfl)) ?_; (with_reducible refine (sigilref4_Utf8.calls k a0 t181 _ A3.out).mono ?_); rintro e w' ⟨rfl, ⟨nd, rfl⟩⟩; refine ⟨_, rfl, ?_⟩))
      go_loopg [6, 7] k (fun kq v6 v7 w' => ∃ (x6_1 : List (S40)) (x7_1 : Int), v7 = .int .i64 x7_1 ∧ Aside0 (sigilref4_Tokens.l0 kq a0 x6_1 x7_1 = some (r1, r2, r3)) ∧ Aside0 (kq ≤ k) ∧ Aside0 (Kd.R k40 40 w' w.heap.size (fun _ => True) v6 x6_1) ∧ Aside0 (Below w.heap.size w w'))
      case atStart => exact ⟨(([] : List (S40))), (0), (by first | rfl | (simp; done) | (simp [*]; done)), H', ⟨Nat.le_refl _⟩, ⟨by first | exact Kd.R_nil _ _ _ _ _ | exact Kd.N_nil _ _ _ _ _ | exact Kd.V_nil _ _ _ _ _ | exact Kd.Q_nil _ _ _ _ _ | exact Kd.S_nil _ _ _ _ _⟩, ⟨by repeat (first | (with_reducible first | exact HB.out | apply below_alloc | apply pw_below_drewN | apply below_drew1) | exact HB.out)⟩⟩
      case round =>
        clear H'
        try clear c2
        try clear c2b0
        try clear c2b1
        try clear p2
        try clear c3
        try clear c4
        try clear c4b0
        obtain ⟨x6_1, x7_1, rfl, HA, HK1, HO_6, HB⟩ := hrel
        cases gk with
        | zero => exact absurd HA.out (by simp [sigilref4_Tokens.l0])
        | succ k1 =>
          have H := HA.out
          clear HA
          simp only [sigilref4_Tokens.l0] at H
          replace H := Option.bind_eq_some_iff.mp H
          obtain ⟨⟨t182, t183⟩, A50, H⟩ := H
          replace H : (if t183 = true then (if t182 = (a0.size : Int) then (if x6_1.length < 4398046511104 then (some ((x6_1 ++ [(⟨5, t182, (⟨#[]⟩ : ByteArray)⟩ : S40)]), 0, 0)) else (none)) else (if (x6_1.length : Int) = 16383 then (some (([] : List (S40)), t182, 45)) else ((sigilref4_one.f k1 a0 t182).bind fun bt187 => (if bt187.2.2 = 0 then (if 0 ≤ t182 then (if t182 ≤ bt187.2.1 then (if bt187.2.1 ≤ (a0.size : Int) then (if x6_1.length < 4398046511104 then (sigilref4_Tokens.l0 k1 a0 (x6_1 ++ [(⟨bt187.1, t182, a0.extract (t182 : Int).toNat (bt187.2.1 : Int).toNat⟩ : S40)]) bt187.2.1) else (none)) else (none)) else (none)) else (none)) else (some (([] : List (S40)), t182, bt187.2.2)))))) else (some (([] : List (S40)), t182, 43))) = some (r1, r2, r3) := H
          have A5 := Aside0.mk A50
          clear A50
          by_cases c6 : t183 = true
          · subst c6
            have H1 : (if t182 = (a0.size : Int) then (if x6_1.length < 4398046511104 then (some ((x6_1 ++ [(⟨5, t182, (⟨#[]⟩ : ByteArray)⟩ : S40)]), 0, 0)) else (none)) else (if (x6_1.length : Int) = 16383 then (some (([] : List (S40)), t182, 45)) else ((sigilref4_one.f k1 a0 t182).bind fun bt187 => (if bt187.2.2 = 0 then (if 0 ≤ t182 then (if t182 ≤ bt187.2.1 then (if bt187.2.1 ≤ (a0.size : Int) then (if x6_1.length < 4398046511104 then (sigilref4_Tokens.l0 k1 a0 (x6_1 ++ [(⟨bt187.1, t182, a0.extract (t182 : Int).toNat (bt187.2.1 : Int).toNat⟩ : S40)]) bt187.2.1) else (none)) else (none)) else (none)) else (none)) else (some (([] : List (S40)), t182, bt187.2.2)))))) = some (r1, r2, r3) := by rw [if_pos rfl] at H; exact H
            clear H
            have H := H1
            clear H1
            by_cases c7 : t182 = (a0.size : Int)
            · rw [if_pos c7] at H
              have c7b0 : (t182 == (a0.size : Int)) = true := beq_iff_eq.mpr c7
              have c7b1 : (t182 != (a0.size : Int)) = false := bne_eq_false_iff_eq.mpr c7
              clear c7
              by_cases c8 : x6_1.length < 4398046511104
              · rw [if_pos c8] at H
                have LMc8 := Aside0.mk c8
                clear c8
                obtain ⟨y184, hy184⟩ : ∃ y_ : List (S40), y_ = (x6_1 ++ [(⟨5, t182, (⟨#[]⟩ : ByteArray)⟩ : S40)]) := ⟨_, rfl⟩
                replace H : (some (y184, 0, 0)) = some (r1, r2, r3) := by first | (rw [hy184]; with_reducible exact H) | (have H2_ := (Option.bind_some _ _).symm.trans H; rw [hy184]; with_reducible exact H2_) | (have H2_ := (Option.bind_some _ _).symm.trans H; with_reducible exact H2_) | with_reducible exact H | (rw [hy184]; exact H) | exact H
                have Ny184 := Aside0.mk hy184
                clear hy184
                simp only [Option.some.injEq, Prod.mk.injEq] at H
                obtain ⟨rfl, rfl, rfl⟩ := H
                go_wp2_with (first | ((with_reducible refine gate_callee (f := 55) rfl ?_); refine goesL_ (some 24) rfl rfl Tryd.func55 (by kernel_rfl) rfl #[.string a0, .int .i64 x7_1] rfl (by (try simp only [List.map_toArray, List.map_cons, List.map_nil]); first | done | rfl | (simp only [List.length_drop, List.length_take]; rfl)) ?_; (with_reducible refine (sigilref4_pass.calls k1 a0 x7_1 t182 true _ A5.out).mono ?_); rintro e w' ⟨rfl, ⟨nd, rfl⟩⟩; refine ⟨_, rfl, ?_⟩) | ((with_reducible refine gate_builtin (b := .append) (xs := #[.tmp 35, .tmp 38]) rfl ?_); at_builtin; refine Kd.R_append k40 (w0 := w) w.heap.size rfl (.tmp 35) (.tmp 38) 36 40 (.agg #[(.int .i64 0), (.int .i64 0), (.string ⟨#[]⟩)]) 32 rfl Tryd.underlying36 info40 rfl (by decide) (by omega) u6 x6_1 (⟨5, t182, (⟨#[]⟩ : ByteArray)⟩ : S40) [.int .i64 5, .int .i64 t182, .string (⟨#[]⟩ : ByteArray)] (fun _ => True) (fun _ => False) rfl rfl ?aP (fun _ hk => hk.elim) ?aF ?aO ?aB ?aS ?aL ?_; (case aP => exact k40_mkM _ _ _ (⟨5, t182, (⟨#[]⟩ : ByteArray)⟩ : S40)); (case aB => exact (by repeat (first | (with_reducible first | exact HB.out | apply below_alloc | apply pw_below_drewN | apply below_drew1) | exact HB.out))); (case aF => exact (fun _ _ => trivial)); (case aO => exact (by (with_reducible repeat (first | apply Kd.R_alloc | apply Kd.R_drewN | apply Kd.R_drew)); exact HO_6.out)); (case aS => exact (below_size (by repeat (first | (with_reducible first | exact HB.out | apply below_alloc | apply pw_below_drewN | apply below_drew1) | exact HB.out)))); (case aL => have := LMc8.out; omega); intro v185 w9 ho hb hg hat; rw [← Ny184.out] at ho; have n0_ := Aside0.mk (hb); have n1_ := Aside0.mk (ho); clear HB; clear HO_6; have HB := n0_; have HO186 := n1_; clear n0_ n1_; clear ho hb hg hat))
                go_ret3
                exact ⟨_, by first | rfl | (simp [errW_none, errW_some] <;> rfl) | (simp [*, errW_none, errW_some] <;> rfl), by (with_reducible repeat (first | apply Kd.R_alloc | apply Kd.R_drewN | apply Kd.R_drew)); exact HO186.out, by repeat (first | (with_reducible first | exact HB.out | apply below_alloc | apply pw_below_drewN | apply below_drew1) | exact HB.out)⟩
              · rw [if_neg c8] at H
                exact absurd H (by simp)
            · rw [if_neg c7] at H
              have c7b0 : (t182 == (a0.size : Int)) = false := beq_eq_false_iff_ne.mpr c7
              have c7b1 : (t182 != (a0.size : Int)) = true := bne_iff_ne.mpr c7
              by_cases c10 : (x6_1.length : Int) = 16383
              · rw [if_pos c10] at H
                have c10b0 : ((x6_1.length : Int) == 16383) = true := beq_iff_eq.mpr c10
                have c10b1 : ((x6_1.length : Int) != 16383) = false := bne_eq_false_iff_eq.mpr c10
                clear c10
                simp only [Option.some.injEq, Prod.mk.injEq] at H
                obtain ⟨rfl, rfl, rfl⟩ := H
                go_wp2_with (first | ((with_reducible refine gate_callee (f := 55) rfl ?_); refine goesL_ (some 24) rfl rfl Tryd.func55 (by kernel_rfl) rfl #[.string a0, .int .i64 x7_1] rfl (by (try simp only [List.map_toArray, List.map_cons, List.map_nil]); first | done | rfl | (simp only [List.length_drop, List.length_take]; rfl)) ?_; (with_reducible refine (sigilref4_pass.calls k1 a0 x7_1 t182 true _ A5.out).mono ?_); rintro e w' ⟨rfl, ⟨nd, rfl⟩⟩; refine ⟨_, rfl, ?_⟩; obtain ⟨Ao11, co11, eo11⟩ := Kd.R_slice HO_6.out; subst eo11))
                go_ret3
                exact ⟨_, by first | rfl | (simp [errW_none, errW_some] <;> rfl) | (simp [*, errW_none, errW_some] <;> rfl), by first | exact Kd.R_nil _ _ _ _ _ | exact Kd.N_nil _ _ _ _ _ | exact Kd.V_nil _ _ _ _ _ | exact Kd.Q_nil _ _ _ _ _ | exact Kd.S_nil _ _ _ _ _, by repeat (first | (with_reducible first | exact HB.out | apply below_alloc | apply pw_below_drewN | apply below_drew1) | exact HB.out)⟩
              · rw [if_neg c10] at H
                have c10b0 : ((x6_1.length : Int) == 16383) = false := beq_eq_false_iff_ne.mpr c10
                have c10b1 : ((x6_1.length : Int) != 16383) = true := bne_iff_ne.mpr c10
                replace H := Option.bind_eq_some_iff.mp H
                obtain ⟨⟨t187, t188, t189⟩, A120, H⟩ := H
                replace H : (if t189 = 0 then (if 0 ≤ t182 then (if t182 ≤ t188 then (if t188 ≤ (a0.size : Int) then (if x6_1.length < 4398046511104 then (sigilref4_Tokens.l0 k1 a0 (x6_1 ++ [(⟨t187, t182, a0.extract (t182 : Int).toNat (t188 : Int).toNat⟩ : S40)]) t188) else (none)) else (none)) else (none)) else (none)) else (some (([] : List (S40)), t182, t189))) = some (r1, r2, r3) := H
                have A12 := Aside0.mk A120
                clear A120
                by_cases c13 : t189 = 0
                · rw [if_pos c13] at H
                  have c13b0 : (t189 == 0) = true := beq_iff_eq.mpr c13
                  have c13b1 : (t189 != 0) = false := bne_eq_false_iff_eq.mpr c13
                  clear c13
                  by_cases c14 : 0 ≤ t182
                  · rw [if_pos c14] at H
                    have c14b0 := eq_true c14
                    have c14b1 : decide (0 ≤ t182) = true := decide_eq_true c14
                    clear c14
                    by_cases c15 : t182 ≤ t188
                    · rw [if_pos c15] at H
                      have c15b0 := eq_true c15
                      have c15b1 : decide (t182 ≤ t188) = true := decide_eq_true c15
                      clear c15
                      by_cases c16 : t188 ≤ (a0.size : Int)
                      · rw [if_pos c16] at H
                        have c16b0 := eq_true c16
                        have c16b1 : decide (t188 ≤ (a0.size : Int)) = true := decide_eq_true c16
                        clear c16
                        by_cases c17 : x6_1.length < 4398046511104
                        · rw [if_pos c17] at H
                          have LMc17 := Aside0.mk c17
                          clear c17
                          obtain ⟨y190, hy190⟩ : ∃ y_ : List (S40), y_ = (x6_1 ++ [(⟨t187, t182, a0.extract (t182 : Int).toNat (t188 : Int).toNat⟩ : S40)]) := ⟨_, rfl⟩
                          replace H : (sigilref4_Tokens.l0 k1 a0 y190 t188) = some (r1, r2, r3) := by first | (rw [hy190]; with_reducible exact H) | (have H2_ := (Option.bind_some _ _).symm.trans H; rw [hy190]; with_reducible exact H2_) | (have H2_ := (Option.bind_some _ _).symm.trans H; with_reducible exact H2_) | with_reducible exact H | (rw [hy190]; exact H) | exact H
                          have Ny190 := Aside0.mk hy190
                          clear hy190
                          have H' := Aside0.mk H
                          clear H
                          go_wp2_with (first | ((with_reducible refine gate_callee (f := 55) rfl ?_); refine goesL_ (some 24) rfl rfl Tryd.func55 (by kernel_rfl) rfl #[.string a0, .int .i64 x7_1] rfl (by (try simp only [List.map_toArray, List.map_cons, List.map_nil]); first | done | rfl | (simp only [List.length_drop, List.length_take]; rfl)) ?_; (with_reducible refine (sigilref4_pass.calls k1 a0 x7_1 t182 true _ A5.out).mono ?_); rintro e w' ⟨rfl, ⟨nd, rfl⟩⟩; refine ⟨_, rfl, ?_⟩; obtain ⟨Ao18, co18, eo18⟩ := Kd.R_slice HO_6.out; subst eo18) | ((with_reducible refine gate_callee (f := 56) rfl ?_); refine goesL_ (some 47) rfl rfl Tryd.func56 (by kernel_rfl) rfl #[.string a0, .int .i64 t182] rfl (by (try simp only [List.map_toArray, List.map_cons, List.map_nil]); first | done | rfl | (simp only [List.length_drop, List.length_take]; rfl)) ?_; (with_reducible refine (sigilref4_one.calls k1 a0 t182 t187 t188 t189 _ A12.out).mono ?_); rintro e w19 ⟨rfl, hb⟩; refine ⟨_, rfl, ?_⟩; have n0_ := Aside0.mk (Kd.R_below (by (with_reducible repeat (first | apply Kd.R_alloc | apply Kd.R_drewN | apply Kd.R_drew)); exact HO_6.out) hb); have n1_ := Aside0.mk (below_step (by repeat (first | (with_reducible first | exact HB.out | apply below_alloc | apply pw_below_drewN | apply below_drew1) | exact HB.out)) hb); clear HO_6; clear HB; have HO_6 := n0_; have HB := n1_; clear n0_ n1_; (try clear hb); (try clear hb2); (try clear hk); (try clear hi)) | ((with_reducible refine gate_builtin (b := .append) (xs := #[.tmp 55, .tmp 63]) rfl ?_); at_builtin; refine Kd.R_append k40 (w0 := w) w.heap.size rfl (.tmp 55) (.tmp 63) 36 40 (.agg #[(.int .i64 0), (.int .i64 0), (.string ⟨#[]⟩)]) 32 rfl Tryd.underlying36 info40 rfl (by decide) (by omega) (.slice Ao18 x6_1.length co18) x6_1 (⟨t187, t182, a0.extract (t182 : Int).toNat (t188 : Int).toNat⟩ : S40) [.int .i64 t187, .int .i64 t182, .string (a0.extract (t182 : Int).toNat (t188 : Int).toNat)] (fun _ => True) (fun _ => False) rfl rfl ?aP (fun _ hk => hk.elim) ?aF ?aO ?aB ?aS ?aL ?_; (case aP => exact k40_mkM _ _ _ (⟨t187, t182, a0.extract (t182 : Int).toNat (t188 : Int).toNat⟩ : S40)); (case aB => exact (by repeat (first | (with_reducible first | exact HB.out | apply below_alloc | apply pw_below_drewN | apply below_drew1) | exact HB.out))); (case aF => exact (fun _ _ => trivial)); (case aO => exact (by (with_reducible repeat (first | apply Kd.R_alloc | apply Kd.R_drewN | apply Kd.R_drew)); exact HO_6.out)); (case aS => exact (below_size (by repeat (first | (with_reducible first | exact HB.out | apply below_alloc | apply pw_below_drewN | apply below_drew1) | exact HB.out)))); (case aL => have := LMc17.out; omega); intro v191 w20 ho hb hg hat; rw [← Ny190.out] at ho; have n0_ := Aside0.mk (hb); have n1_ := Aside0.mk (ho); clear HB; clear HO_6; have HB := n0_; have HO192 := n1_; clear n0_ n1_; clear ho hb hg hat))
                          go_roundg k1
                          case measure => have := HK1.out; omega
                          case rel => exact ⟨(y190), (t188), (by first | rfl | (simp; done) | (simp [*]; done)), H', ⟨by have := HK1.out; omega⟩, ⟨by (with_reducible repeat (first | apply Kd.R_alloc | apply Kd.R_drewN | apply Kd.R_drew)); exact HO192.out⟩, ⟨by repeat (first | (with_reducible first | exact HB.out | apply below_alloc | apply pw_below_drewN | apply below_drew1) | exact HB.out)⟩⟩
                        · rw [if_neg c17] at H
                          exact absurd H (by simp)
                      · rw [if_neg c16] at H
                        exact absurd H (by simp)
                    · rw [if_neg c15] at H
                      exact absurd H (by simp)
                  · rw [if_neg c14] at H
                    exact absurd H (by simp)
                · rw [if_neg c13] at H
                  have c13b0 : (t189 == 0) = false := beq_eq_false_iff_ne.mpr c13
                  have c13b1 : (t189 != 0) = true := bne_iff_ne.mpr c13
                  simp only [Option.some.injEq, Prod.mk.injEq] at H
                  obtain ⟨rfl, rfl, rfl⟩ := H
                  go_wp2_with (first | ((with_reducible refine gate_callee (f := 55) rfl ?_); refine goesL_ (some 24) rfl rfl Tryd.func55 (by kernel_rfl) rfl #[.string a0, .int .i64 x7_1] rfl (by (try simp only [List.map_toArray, List.map_cons, List.map_nil]); first | done | rfl | (simp only [List.length_drop, List.length_take]; rfl)) ?_; (with_reducible refine (sigilref4_pass.calls k1 a0 x7_1 t182 true _ A5.out).mono ?_); rintro e w' ⟨rfl, ⟨nd, rfl⟩⟩; refine ⟨_, rfl, ?_⟩; obtain ⟨Ao21, co21, eo21⟩ := Kd.R_slice HO_6.out; subst eo21) | ((with_reducible refine gate_callee (f := 56) rfl ?_); refine goesL_ (some 47) rfl rfl Tryd.func56 (by kernel_rfl) rfl #[.string a0, .int .i64 t182] rfl (by (try simp only [List.map_toArray, List.map_cons, List.map_nil]); first | done | rfl | (simp only [List.length_drop, List.length_take]; rfl)) ?_; (with_reducible refine (sigilref4_one.calls k1 a0 t182 t187 t188 t189 _ A12.out).mono ?_); rintro e w22 ⟨rfl, hb⟩; refine ⟨_, rfl, ?_⟩; have n0_ := Aside0.mk (Kd.R_below (by (with_reducible repeat (first | apply Kd.R_alloc | apply Kd.R_drewN | apply Kd.R_drew)); exact HO_6.out) hb); have n1_ := Aside0.mk (below_step (by repeat (first | (with_reducible first | exact HB.out | apply below_alloc | apply pw_below_drewN | apply below_drew1) | exact HB.out)) hb); clear HO_6; clear HB; have HO_6 := n0_; have HB := n1_; clear n0_ n1_; (try clear hb); (try clear hb2); (try clear hk); (try clear hi)))
                  go_ret3
                  exact ⟨_, by first | rfl | (simp [errW_none, errW_some] <;> rfl) | (simp [*, errW_none, errW_some] <;> rfl), by first | exact Kd.R_nil _ _ _ _ _ | exact Kd.N_nil _ _ _ _ _ | exact Kd.V_nil _ _ _ _ _ | exact Kd.Q_nil _ _ _ _ _ | exact Kd.S_nil _ _ _ _ _, by repeat (first | (with_reducible first | exact HB.out | apply below_alloc | apply pw_below_drewN | apply below_drew1) | exact HB.out)⟩
          · replace c6 := Bool.eq_false_iff.mpr c6
            subst c6
            have H1 : (some (([] : List (S40)), t182, 43)) = some (r1, r2, r3) := by rw [if_neg (show ¬ (false = true) by decide)] at H; exact H
            clear H
            have H := H1
            clear H1
            simp only [Option.some.injEq, Prod.mk.injEq] at H
            obtain ⟨rfl, rfl, rfl⟩ := H
            go_wp2_with (first | ((with_reducible refine gate_callee (f := 55) rfl ?_); refine goesL_ (some 24) rfl rfl Tryd.func55 (by kernel_rfl) rfl #[.string a0, .int .i64 x7_1] rfl (by (try simp only [List.map_toArray, List.map_cons, List.map_nil]); first | done | rfl | (simp only [List.length_drop, List.length_take]; rfl)) ?_; (with_reducible refine (sigilref4_pass.calls k1 a0 x7_1 t182 false _ A5.out).mono ?_); rintro e w' ⟨rfl, ⟨nd, rfl⟩⟩; refine ⟨_, rfl, ?_⟩))
            go_ret3
            exact ⟨_, by first | rfl | (simp [errW_none, errW_some] <;> rfl) | (simp [*, errW_none, errW_some] <;> rfl), by first | exact Kd.R_nil _ _ _ _ _ | exact Kd.N_nil _ _ _ _ _ | exact Kd.V_nil _ _ _ _ _ | exact Kd.Q_nil _ _ _ _ _ | exact Kd.S_nil _ _ _ _ _, by repeat (first | (with_reducible first | exact HB.out | apply below_alloc | apply pw_below_drewN | apply below_drew1) | exact HB.out)⟩

-- NOT PRINTED: function 20 (sigillaw4_scanned)

-- NOT PRINTED: function 6 (sigillaw4_ScanTokens)

-- NOT PRINTED: function 71 (abi_NoEscape)

-- NOT PRINTED: function 52 (strings_Builder_copyCheck)

-- NOT PRINTED: function 33 (strings_Builder_WriteByte)

/-! ### scan_written: function 34 -/
def scan_written.f (a0 : Int) : Option (ByteArray) := if a0 = 92 then (some (⟨#[92, 92]⟩ : ByteArray)) else (if a0 = 34 then (some (⟨#[92, 34]⟩ : ByteArray)) else (if a0 = 10 then (some (⟨#[92, 110]⟩ : ByteArray)) else (if a0 = 13 then (some (⟨#[92, 114]⟩ : ByteArray)) else (if a0 = 9 then (some (⟨#[92, 116]⟩ : ByteArray)) else (some (⟨#[]⟩ : ByteArray))))))
set_option maxHeartbeats 8000000 in
set_option maxRecDepth 100000 in
theorem scan_written.calls (a0 : Int) (r : ByteArray) (w : World) (h : scan_written.f a0 = some r) :
    Calls Tryd.prog 34 #[.int .u8 a0] w fun e w' => e = .returned (.string r) ∧ Drawn0 w w' := by
  have H : (if a0 = 92 then (some (⟨#[92, 92]⟩ : ByteArray)) else (if a0 = 34 then (some (⟨#[92, 34]⟩ : ByteArray)) else (if a0 = 10 then (some (⟨#[92, 110]⟩ : ByteArray)) else (if a0 = 13 then (some (⟨#[92, 114]⟩ : ByteArray)) else (if a0 = 9 then (some (⟨#[92, 116]⟩ : ByteArray)) else (some (⟨#[]⟩ : ByteArray))))))) = some r := h
  clear h
  by_cases c2 : a0 = 92
  · rw [if_pos c2] at H
    have c2b0 : (a0 == 92) = true := beq_iff_eq.mpr c2
    have c2b1 : (a0 != 92) = false := bne_eq_false_iff_eq.mpr c2
    clear c2
    obtain rfl := Option.some.inj H
    go_enter Tryd.func34, Tryd.ntmps34
    go_wp2
    go_ret
    exact ⟨by first | rfl | (simp; done) | (simp [*]; done), by repeat (first | exact Drawn0.refl _ | apply Drawn0.step)⟩
  · rw [if_neg c2] at H
    have c2b0 : (a0 == 92) = false := beq_eq_false_iff_ne.mpr c2
    have c2b1 : (a0 != 92) = true := bne_iff_ne.mpr c2
    by_cases c3 : a0 = 34
    · rw [if_pos c3] at H
      have c3b0 : (a0 == 34) = true := beq_iff_eq.mpr c3
      have c3b1 : (a0 != 34) = false := bne_eq_false_iff_eq.mpr c3
      clear c3
      obtain rfl := Option.some.inj H
      go_enter Tryd.func34, Tryd.ntmps34
      go_wp2
      go_ret
      exact ⟨by first | rfl | (simp; done) | (simp [*]; done), by repeat (first | exact Drawn0.refl _ | apply Drawn0.step)⟩
    · rw [if_neg c3] at H
      have c3b0 : (a0 == 34) = false := beq_eq_false_iff_ne.mpr c3
      have c3b1 : (a0 != 34) = true := bne_iff_ne.mpr c3
      by_cases c4 : a0 = 10
      · rw [if_pos c4] at H
        have c4b0 : (a0 == 10) = true := beq_iff_eq.mpr c4
        have c4b1 : (a0 != 10) = false := bne_eq_false_iff_eq.mpr c4
        clear c4
        obtain rfl := Option.some.inj H
        go_enter Tryd.func34, Tryd.ntmps34
        go_wp2
        go_ret
        exact ⟨by first | rfl | (simp; done) | (simp [*]; done), by repeat (first | exact Drawn0.refl _ | apply Drawn0.step)⟩
      · rw [if_neg c4] at H
        have c4b0 : (a0 == 10) = false := beq_eq_false_iff_ne.mpr c4
        have c4b1 : (a0 != 10) = true := bne_iff_ne.mpr c4
        by_cases c5 : a0 = 13
        · rw [if_pos c5] at H
          have c5b0 : (a0 == 13) = true := beq_iff_eq.mpr c5
          have c5b1 : (a0 != 13) = false := bne_eq_false_iff_eq.mpr c5
          clear c5
          obtain rfl := Option.some.inj H
          go_enter Tryd.func34, Tryd.ntmps34
          go_wp2
          go_ret
          exact ⟨by first | rfl | (simp; done) | (simp [*]; done), by repeat (first | exact Drawn0.refl _ | apply Drawn0.step)⟩
        · rw [if_neg c5] at H
          have c5b0 : (a0 == 13) = false := beq_eq_false_iff_ne.mpr c5
          have c5b1 : (a0 != 13) = true := bne_iff_ne.mpr c5
          by_cases c6 : a0 = 9
          · rw [if_pos c6] at H
            have c6b0 : (a0 == 9) = true := beq_iff_eq.mpr c6
            have c6b1 : (a0 != 9) = false := bne_eq_false_iff_eq.mpr c6
            clear c6
            obtain rfl := Option.some.inj H
            go_enter Tryd.func34, Tryd.ntmps34
            go_wp2
            go_ret
            exact ⟨by first | rfl | (simp; done) | (simp [*]; done), by repeat (first | exact Drawn0.refl _ | apply Drawn0.step)⟩
          · rw [if_neg c6] at H
            have c6b0 : (a0 == 9) = false := beq_eq_false_iff_ne.mpr c6
            have c6b1 : (a0 != 9) = true := bne_iff_ne.mpr c6
            obtain rfl := Option.some.inj H
            go_enter Tryd.func34, Tryd.ntmps34
            go_wp2
            go_ret
            exact ⟨by first | rfl | (simp; done) | (simp [*]; done), by repeat (first | exact Drawn0.refl _ | apply Drawn0.step)⟩

-- NOT PRINTED: function 35 (strings_Builder_WriteString)

/-! ### scan_character: function 36 -/
mutual
def scan_character.l0 : Nat → ByteArray → Int → Option (Int)
  | 0, _, _ => none
  | k + 1, x0, x3 => if x3 ≤ 4 then (scan_character.j1 k x0 x3 (decide (x3 ≤ (x0.size : Int)))) else (scan_character.j1 k x0 x3 false)
def scan_character.j1 : Nat → ByteArray → Int → Bool → Option (Int)
  | 0, _, _, _ => none
  | k + 1, x0, x3, x11 => if x11 = true then (if 0 ≤ x3 then (if x3 ≤ (x0.size : Int) then ((wire_Utf8.f k (x0.extract 0 (x3 : Int).toNat)).bind fun t193 => (if t193 < 0 then (some x3) else (scan_character.l0 k x0 (wrap64 (x3 + 1))))) else (none)) else (none)) else (some 0)
end
def scan_character.f (k : Nat) (a0 : ByteArray) : Option (Int) := scan_character.l0 k a0 2
theorem scan_character.mono_l : ∀ k, (∀ y0 y1, LeO (scan_character.l0 k y0 y1) (scan_character.l0 (k + 1) y0 y1)) ∧ (∀ y0 y1 y2, LeO (scan_character.j1 k y0 y1 y2) (scan_character.j1 (k + 1) y0 y1 y2))
  | 0 => ⟨fun _ _ r h => by simp [scan_character.l0] at h, fun _ _ _ r h => by simp [scan_character.j1] at h⟩
  | k + 1 => by
    obtain ⟨ih0, ih1⟩ := scan_character.mono_l k
    refine ⟨?_, ?_⟩
    · intro y0 y1
      unfold scan_character.l0
      repeat' first
      | (with_reducible exact ih0 _ _)
      | (with_reducible exact ih1 _ _ _)
      | (with_reducible exact wire_Utf8.mono _ _)
      | (with_reducible exact LeO.refl _)
      | (with_reducible exact LeO.none _)
      | (with_reducible refine LeO.ite ?_ ?_)
      | (with_reducible refine LeO.bind ?_ (fun _ => ?_))
      | exact ih0 _ _
      | exact ih1 _ _ _
      | exact wire_Utf8.mono _ _
      | exact LeO.none _
      | refine LeO.ite ?_ ?_
      | refine LeO.bind ?_ (fun _ => ?_)
    · intro y0 y1 y2
      unfold scan_character.j1
      repeat' first
      | (with_reducible exact ih0 _ _)
      | (with_reducible exact ih1 _ _ _)
      | (with_reducible exact wire_Utf8.mono _ _)
      | (with_reducible exact LeO.refl _)
      | (with_reducible exact LeO.none _)
      | (with_reducible refine LeO.ite ?_ ?_)
      | (with_reducible refine LeO.bind ?_ (fun _ => ?_))
      | exact ih0 _ _
      | exact ih1 _ _ _
      | exact wire_Utf8.mono _ _
      | exact LeO.none _
      | refine LeO.ite ?_ ?_
      | refine LeO.bind ?_ (fun _ => ?_)
theorem scan_character.mono : ∀ a0 k, LeO (scan_character.f k a0) (scan_character.f (k + 1) a0) := by
  intro a0 k
  obtain ⟨ih0, ih1⟩ := scan_character.mono_l k
  unfold scan_character.f
  repeat' first
      | (with_reducible exact ih0 _ _)
      | (with_reducible exact ih1 _ _ _)
      | (with_reducible exact wire_Utf8.mono _ _)
      | (with_reducible exact LeO.refl _)
      | (with_reducible exact LeO.none _)
      | (with_reducible refine LeO.ite ?_ ?_)
      | (with_reducible refine LeO.bind ?_ (fun _ => ?_))
      | exact ih0 _ _
      | exact ih1 _ _ _
      | exact wire_Utf8.mono _ _
      | exact LeO.none _
      | refine LeO.ite ?_ ?_
      | refine LeO.bind ?_ (fun _ => ?_)
set_option maxHeartbeats 8000000 in
set_option maxRecDepth 100000 in
theorem scan_character.calls (k : Nat) (a0 : ByteArray) (r : Int) (w : World) (h : scan_character.f k a0 = some r) (hL : LaidW w) :
    Calls Tryd.prog 36 #[.string a0] w fun e w' => e = .returned (.int .i64 r) ∧ Below w.heap.size w w' := by
  have HL := Aside0.mk hL
  clear hL
  have HB := Aside0.mk (Below.refl w.heap.size w)
  have H : (scan_character.l0 k a0 2) = some r := h
  clear h
  have H' := Aside0.mk H
  clear H
  go_enter Tryd.func36, Tryd.ntmps36
  go_wp2
  go_loopg [3] k (fun kq v3 w' => ∃ (x3_1 : Int), v3 = .int .i64 x3_1 ∧ Aside0 (scan_character.l0 kq a0 x3_1 = some r) ∧ Aside0 (kq ≤ k) ∧ Aside0 (Below w.heap.size w w'))
  case atStart => exact ⟨(2), (by first | rfl | (simp; done) | (simp [*]; done)), H', ⟨Nat.le_refl _⟩, ⟨by repeat (first | (with_reducible first | exact HB.out | apply below_alloc | apply pw_below_drewN | apply below_drew1) | exact HB.out)⟩⟩
  case round =>
    clear H'
    obtain ⟨x3_1, rfl, HA, HK1, HB⟩ := hrel
    cases gk with
    | zero => exact absurd HA.out (by simp [scan_character.l0])
    | succ k1 =>
      have H := HA.out
      clear HA
      simp only [scan_character.l0] at H
      have HC2 := Aside0.mk H
      clear H
      go_upto_region 2 with (fail)
      go_cut [11] (fun v11 wc => ∃ (kq : Nat) (x11_1 : Bool), v11 = .bool x11_1 ∧ Aside0 (scan_character.j1 kq a0 x3_1 x11_1 = some r) ∧ Aside0 (kq ≤ k1) ∧ Aside0 (Below w.heap.size w wc))
      case first =>
        have H := HC2.out
        clear HC2
        by_cases c3 : x3_1 ≤ 4
        · rw [if_pos c3] at H
          have c3b0 : decide (x3_1 ≤ 4) = true := decide_eq_true c3
          clear c3
          (first | rw [c3b0] | (simp only [i64_w, i32_w]; rw [c3b0]) | skip)
          have H' := Aside0.mk H
          clear H
          go_wp2
          go_meet
          case rel => exact ⟨_, (decide (x3_1 ≤ (a0.size : Int))), (by first | rfl | (simp; done) | (simp [*]; done)), H', ⟨by have := HK1.out; first | omega | exact Nat.le_refl _⟩, ⟨by repeat (first | (with_reducible first | exact HB.out | apply below_alloc | apply pw_below_drewN | apply below_drew1) | exact HB.out)⟩⟩
        · rw [if_neg c3] at H
          have c3b0 : decide (x3_1 ≤ 4) = false := decide_eq_false c3
          clear c3
          (first | rw [c3b0] | (simp only [i64_w, i32_w]; rw [c3b0]) | skip)
          have H' := Aside0.mk H
          clear H
          go_wp2
          go_meet
          case rel => exact ⟨_, (false), (by first | rfl | (simp; done) | (simp [*]; done)), H', ⟨by have := HK1.out; first | omega | exact Nat.le_refl _⟩, ⟨by repeat (first | (with_reducible first | exact HB.out | apply below_alloc | apply pw_below_drewN | apply below_drew1) | exact HB.out)⟩⟩
      case rest =>
        clear HC2
        try clear p2
        try clear c3
        try clear c3b0
        obtain ⟨kq, x11_1, rfl, HA, HJ1, HB⟩ := hcut
        cases kq with
        | zero => exact absurd HA.out (by simp [scan_character.j1])
        | succ kj1 =>
          have H := HA.out
          clear HA
          simp only [scan_character.j1] at H
          by_cases c4 : x11_1 = true
          · subst c4
            have H1 : (if 0 ≤ x3_1 then (if x3_1 ≤ (a0.size : Int) then ((wire_Utf8.f kj1 (a0.extract 0 (x3_1 : Int).toNat)).bind fun t193 => (if t193 < 0 then (some x3_1) else (scan_character.l0 kj1 a0 (wrap64 (x3_1 + 1))))) else (none)) else (none)) = some r := by rw [if_pos rfl] at H; exact H
            clear H
            have H := H1
            clear H1
            by_cases c5 : 0 ≤ x3_1
            · rw [if_pos c5] at H
              have c5b0 := eq_true c5
              have c5b1 : decide (0 ≤ x3_1) = true := decide_eq_true c5
              clear c5
              by_cases c6 : x3_1 ≤ (a0.size : Int)
              · rw [if_pos c6] at H
                have c6b0 := eq_true c6
                have c6b1 : decide (x3_1 ≤ (a0.size : Int)) = true := decide_eq_true c6
                clear c6
                replace H := Option.bind_eq_some_iff.mp H
                obtain ⟨t193, A70, H⟩ := H
                replace H : (if t193 < 0 then (some x3_1) else (scan_character.l0 kj1 a0 (wrap64 (x3_1 + 1)))) = some r := H
                have A7 := Aside0.mk A70
                clear A70
                by_cases c8 : t193 < 0
                · rw [if_pos c8] at H
                  have c8b0 : decide (t193 < 0) = true := decide_eq_true c8
                  clear c8
                  obtain rfl := Option.some.inj H
                  go_wp2_with (first | ((with_reducible refine gate_callee (f := 29) rfl ?_); refine goesL_ (some 17) rfl rfl Tryd.func29 (by kernel_rfl) rfl #[.string (a0.extract 0 (x3_1 : Int).toNat)] rfl (by (try simp only [List.map_toArray, List.map_cons, List.map_nil]); first | done | rfl | (simp only [List.length_drop, List.length_take]; rfl)) ?_; (with_reducible refine (wire_Utf8.calls kj1 (a0.extract 0 (x3_1 : Int).toNat) t193 _ A7.out (LaidW.below HL.out (by repeat (first | (with_reducible first | exact HB.out | apply below_alloc | apply pw_below_drewN | apply below_drew1) | exact HB.out | exact Below.refl _ _)))).mono ?_); rintro e w9 ⟨rfl, hb⟩; refine ⟨_, rfl, ?_⟩; have n0_ := Aside0.mk (below_step (by repeat (first | (with_reducible first | exact HB.out | apply below_alloc | apply pw_below_drewN | apply below_drew1) | exact HB.out)) hb); clear HB; have HB := n0_; clear n0_; (try clear hb); (try clear hb2); (try clear hk); (try clear hi)))
                  go_ret
                  exact ⟨by first | rfl | (simp [errW_none, errW_some] <;> rfl) | (simp [*, errW_none, errW_some] <;> rfl), by repeat (first | (with_reducible first | exact HB.out | apply below_alloc | apply pw_below_drewN | apply below_drew1) | exact HB.out)⟩
                · rw [if_neg c8] at H
                  have c8b0 : decide (t193 < 0) = false := decide_eq_false c8
                  clear c8
                  have H' := Aside0.mk H
                  clear H
                  go_wp2_with (first | ((with_reducible refine gate_callee (f := 29) rfl ?_); refine goesL_ (some 17) rfl rfl Tryd.func29 (by kernel_rfl) rfl #[.string (a0.extract 0 (x3_1 : Int).toNat)] rfl (by (try simp only [List.map_toArray, List.map_cons, List.map_nil]); first | done | rfl | (simp only [List.length_drop, List.length_take]; rfl)) ?_; (with_reducible refine (wire_Utf8.calls kj1 (a0.extract 0 (x3_1 : Int).toNat) t193 _ A7.out (LaidW.below HL.out (by repeat (first | (with_reducible first | exact HB.out | apply below_alloc | apply pw_below_drewN | apply below_drew1) | exact HB.out | exact Below.refl _ _)))).mono ?_); rintro e w10 ⟨rfl, hb⟩; refine ⟨_, rfl, ?_⟩; have n0_ := Aside0.mk (below_step (by repeat (first | (with_reducible first | exact HB.out | apply below_alloc | apply pw_below_drewN | apply below_drew1) | exact HB.out)) hb); clear HB; have HB := n0_; clear n0_; (try clear hb); (try clear hb2); (try clear hk); (try clear hi)))
                  go_roundg kj1
                  case measure => have := HK1.out; have := HJ1.out; omega
                  case rel => exact ⟨(wrap64 (x3_1 + 1)), (by first | rfl | (simp; done) | (simp [*]; done)), H', ⟨by have := HK1.out; have := HJ1.out; omega⟩, ⟨by repeat (first | (with_reducible first | exact HB.out | apply below_alloc | apply pw_below_drewN | apply below_drew1) | exact HB.out)⟩⟩
              · rw [if_neg c6] at H
                exact absurd H (by simp)
            · rw [if_neg c5] at H
              exact absurd H (by simp)
          · replace c4 := Bool.eq_false_iff.mpr c4
            subst c4
            have H1 : (some 0) = some r := by rw [if_neg (show ¬ (false = true) by decide)] at H; exact H
            clear H
            have H := H1
            clear H1
            obtain rfl := Option.some.inj H
            go_wp2
            go_ret
            exact ⟨by first | rfl | (simp [errW_none, errW_some] <;> rfl) | (simp [*, errW_none, errW_some] <;> rfl), by repeat (first | (with_reducible first | exact HB.out | apply below_alloc | apply pw_below_drewN | apply below_drew1) | exact HB.out)⟩

-- NOT PRINTED: function 37 (strings_Builder_Write)

-- NOT PRINTED: function 38 (strings_Builder_String)

-- NOT PRINTED: function 15 (scan_Quote)

/-! ### sigilref4_octal: function 40 -/
def sigilref4_octal.f (a0 : Int) : Option (ByteArray) := some (strOfNums (([92, (48 + ((Int.tdiv a0 64) % 256)) % 256, 48 + (((Int.tdiv a0 8) % 256) % 8), (48 + (Int.tmod a0 8)) % 256] : List Int)))
set_option maxHeartbeats 8000000 in
set_option maxRecDepth 100000 in
theorem sigilref4_octal.calls (a0 : Int) (r : ByteArray) (w : World) (h : sigilref4_octal.f a0 = some r) :
    Calls Tryd.prog 40 #[.int .u8 a0] w fun e w' => e = .returned (.string r) ∧ Below w.heap.size w w' := by
  have HB := Aside0.mk (Below.refl w.heap.size w)
  have H : (some (strOfNums (([92, (48 + ((Int.tdiv a0 64) % 256)) % 256, 48 + (((Int.tdiv a0 8) % 256) % 8), (48 + (Int.tmod a0 8)) % 256] : List Int)))) = some r := h
  clear h
  obtain ⟨y194, hy194⟩ : ∃ y_ : List Int, y_ = (([92, (48 + ((Int.tdiv a0 64) % 256)) % 256, 48 + (((Int.tdiv a0 8) % 256) % 8), (48 + (Int.tmod a0 8)) % 256] : List Int)) := ⟨_, rfl⟩
  replace H : (some (strOfNums y194)) = some r := by first | (rw [hy194]; with_reducible exact H) | (have H2_ := (Option.bind_some _ _).symm.trans H; rw [hy194]; with_reducible exact H2_) | (have H2_ := (Option.bind_some _ _).symm.trans H; with_reducible exact H2_) | with_reducible exact H | (rw [hy194]; exact H) | exact H
  have Ny194 := Aside0.mk hy194
  clear hy194
  obtain rfl := Option.some.inj H
  go_enter Tryd.func40, Tryd.ntmps40
  go_wp2_with (first | ((with_reducible refine gate_dst (N := 13) rfl ?_); refine Kd.R_lit (Kd.int .u8) _ 5 ?hg (N := 13) ?hd (xs := ([92, (48 + ((Int.tdiv a0 64) % 256)) % 256, 48 + (((Int.tdiv a0 8) % 256) % 8), (48 + (Int.tmod a0 8)) % 256] : List Int)) (inner := [.int .u8 92, .int .u8 ((48 + ((Int.tdiv a0 64) % 256)) % 256), .int .u8 (48 + (((Int.tdiv a0 8) % 256) % 8)), .int .u8 ((48 + (Int.tmod a0 8)) % 256)]) (ok := fun _ => True) (okp := fun _ => True) ?hr ?hp (fun _ hk => hk) trivial (Below.refl _ _) (Nat.le_refl _) (by simp) ?_; (case hd => rfl); (case hg => rfl); (case hr => first | (go_simp; done) | (go_simp; rfl)); (case hp => exact (Reps.one (show Kd.M (Kd.int .u8) _ _ _ 92 [.int .u8 92] from rfl) (Reps.one (show Kd.M (Kd.int .u8) _ _ _ ((48 + ((Int.tdiv a0 64) % 256)) % 256) [.int .u8 ((48 + ((Int.tdiv a0 64) % 256)) % 256)] from rfl) (Reps.one (show Kd.M (Kd.int .u8) _ _ _ (48 + (((Int.tdiv a0 8) % 256) % 8)) [.int .u8 (48 + (((Int.tdiv a0 8) % 256) % 8))] from rfl) (Reps.one (show Kd.M (Kd.int .u8) _ _ _ ((48 + (Int.tmod a0 8)) % 256) [.int .u8 ((48 + (Int.tmod a0 8)) % 256)] from rfl) (Reps.none _ _)))))); intro v195 w2 ho3 hb hg_ hnew_; clear hg_ hnew_; (first | rw [← Ny194.out] at ho3 | (simp only [Int.reduceToNat] at ho3; rw [← Ny194.out] at ho3)); have n0_ := Aside0.mk (Kd.R_lower ho3 (below_size (by repeat (first | (with_reducible first | exact HB.out | apply below_alloc | apply pw_below_drewN | apply below_drew1) | exact HB.out)))); have n1_ := Aside0.mk (below_step (by repeat (first | (with_reducible first | exact HB.out | apply below_alloc | apply pw_below_drewN | apply below_drew1) | exact HB.out)) hb); clear HB; have HO196 := n0_; have HB := n1_; clear n0_ n1_; clear hb ho3; have hcv4 := own_string (P := Tryd.prog) Tryd.underlying33 Tryd.underlying5 Tryd.underlying9 (Kd.own_of_R HO196.out)))
  go_ret
  exact ⟨by first | rfl | (simp [errW_none, errW_some] <;> rfl) | (simp [*, errW_none, errW_some] <;> rfl), by repeat (first | (with_reducible first | exact HB.out | apply below_alloc | apply pw_below_drewN | apply below_drew1) | exact HB.out)⟩

end Go.Proofs.YtabgnbbljjohdaaRDoor.A
