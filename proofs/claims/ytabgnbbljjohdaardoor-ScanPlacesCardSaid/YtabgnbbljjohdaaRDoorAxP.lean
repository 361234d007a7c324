-- THIS SESSION'S TEXT: written by plugprint.py out of the translation, with contracts proved by hand.
import Derived.Test.YtabgnbbljjohdaaRDoorAx
namespace Go.Proofs.YtabgnbbljjohdaaRDoor.A
open Go.RowKit Go.Proofs.YtabgnbbljjohdaaRDoorW.PrintWords Go.Proofs.YtabgnbbljjohdaaRDoorW.PrintLast Go.Proofs.YtabgnbbljjohdaaRDoorW.PrintMore
attribute [local go_sem] max2_int min2_int max_two min_two max_three min_three max_four min_four   -- for this text's walks alone
set_option linter.unusedVariables false
set_option linter.unusedSimpArgs false
attribute [local go_sem high] eqA40

/-! ### sigillaw4_fill: function 22 -/
def sigillaw4_fill.f (a0 : Int) : Option (ByteArray) := (some (([(⟨#[32]⟩ : ByteArray), (⟨#[10]⟩ : ByteArray), (⟨#[9, 11, 12, 13, 32]⟩ : ByteArray), (⟨#[32, 47, 47, 32, 99, 32, 34, 32, 39, 10]⟩ : ByteArray), (⟨#[32, 47, 42, 32, 39, 32, 42, 32, 47, 32, 42, 47, 32]⟩ : ByteArray), (⟨#[32, 32, 47, 42, 42, 47]⟩ : ByteArray), (⟨#[32, 47, 42, 47, 42, 47]⟩ : ByteArray), (⟨#[32, 47, 47, 10, 47, 47, 10]⟩ : ByteArray)] : List ByteArray) : List ByteArray)).bind fun y264 => (if (y264.length : Int) = 0 then (none) else (if (Int.tmod a0 (y264.length : Int)) < 0 then (if 0 ≤ (wrap64 ((Int.tmod a0 (y264.length : Int)) + (y264.length : Int))) then (if (wrap64 ((Int.tmod a0 (y264.length : Int)) + (y264.length : Int))) < (y264.length : Int) then (some (rdOf ByteArray.empty y264 (wrap64 ((Int.tmod a0 (y264.length : Int)) + (y264.length : Int))))) else (none)) else (none)) else (if 0 ≤ (Int.tmod a0 (y264.length : Int)) then (if (Int.tmod a0 (y264.length : Int)) < (y264.length : Int) then (some (rdOf ByteArray.empty y264 (Int.tmod a0 (y264.length : Int)))) else (none)) else (none))))
set_option maxHeartbeats 8000000 in
set_option maxRecDepth 100000 in
theorem sigillaw4_fill.calls (a0 : Int) (r : ByteArray) (w : World) (h : sigillaw4_fill.f a0 = some r) :
    Calls Tryd.prog 22 #[.int .i64 a0] w fun e w' => e = .returned (.string r) ∧ Below w.heap.size w w' := by
  have HB := Aside0.mk (Below.refl w.heap.size w)
  have H : ((some (([(⟨#[32]⟩ : ByteArray), (⟨#[10]⟩ : ByteArray), (⟨#[9, 11, 12, 13, 32]⟩ : ByteArray), (⟨#[32, 47, 47, 32, 99, 32, 34, 32, 39, 10]⟩ : ByteArray), (⟨#[32, 47, 42, 32, 39, 32, 42, 32, 47, 32, 42, 47, 32]⟩ : ByteArray), (⟨#[32, 32, 47, 42, 42, 47]⟩ : ByteArray), (⟨#[32, 47, 42, 47, 42, 47]⟩ : ByteArray), (⟨#[32, 47, 47, 10, 47, 47, 10]⟩ : ByteArray)] : List ByteArray) : List ByteArray)).bind fun y264 => (if (y264.length : Int) = 0 then (none) else (if (Int.tmod a0 (y264.length : Int)) < 0 then (if 0 ≤ (wrap64 ((Int.tmod a0 (y264.length : Int)) + (y264.length : Int))) then (if (wrap64 ((Int.tmod a0 (y264.length : Int)) + (y264.length : Int))) < (y264.length : Int) then (some (rdOf ByteArray.empty y264 (wrap64 ((Int.tmod a0 (y264.length : Int)) + (y264.length : Int))))) else (none)) else (none)) else (if 0 ≤ (Int.tmod a0 (y264.length : Int)) then (if (Int.tmod a0 (y264.length : Int)) < (y264.length : Int) then (some (rdOf ByteArray.empty y264 (Int.tmod a0 (y264.length : Int)))) else (none)) else (none))))) = some r := h
  clear h
  obtain ⟨y264, hy264⟩ : ∃ y_ : List ByteArray, y_ = (([(⟨#[32]⟩ : ByteArray), (⟨#[10]⟩ : ByteArray), (⟨#[9, 11, 12, 13, 32]⟩ : ByteArray), (⟨#[32, 47, 47, 32, 99, 32, 34, 32, 39, 10]⟩ : ByteArray), (⟨#[32, 47, 42, 32, 39, 32, 42, 32, 47, 32, 42, 47, 32]⟩ : ByteArray), (⟨#[32, 32, 47, 42, 42, 47]⟩ : ByteArray), (⟨#[32, 47, 42, 47, 42, 47]⟩ : ByteArray), (⟨#[32, 47, 47, 10, 47, 47, 10]⟩ : ByteArray)] : List ByteArray)) := ⟨_, rfl⟩
  replace H : (if (y264.length : Int) = 0 then (none) else (if (Int.tmod a0 (y264.length : Int)) < 0 then (if 0 ≤ (wrap64 ((Int.tmod a0 (y264.length : Int)) + (y264.length : Int))) then (if (wrap64 ((Int.tmod a0 (y264.length : Int)) + (y264.length : Int))) < (y264.length : Int) then (some (rdOf ByteArray.empty y264 (wrap64 ((Int.tmod a0 (y264.length : Int)) + (y264.length : Int))))) else (none)) else (none)) else (if 0 ≤ (Int.tmod a0 (y264.length : Int)) then (if (Int.tmod a0 (y264.length : Int)) < (y264.length : Int) then (some (rdOf ByteArray.empty y264 (Int.tmod a0 (y264.length : Int)))) else (none)) else (none)))) = some r := by first | (rw [hy264]; with_reducible exact H) | (have H2_ := (Option.bind_some _ _).symm.trans H; rw [hy264]; with_reducible exact H2_) | (have H2_ := (Option.bind_some _ _).symm.trans H; with_reducible exact H2_) | with_reducible exact H | (rw [hy264]; exact H) | exact H
  have Ny264 := Aside0.mk hy264
  clear hy264
  by_cases c2 : (y264.length : Int) = 0
  · rw [if_pos c2] at H
    exact absurd H (by simp)
  · rw [if_neg c2] at H
    have c2b0 : ((y264.length : Int) == 0) = false := beq_eq_false_iff_ne.mpr c2
    have c2b1 : ((y264.length : Int) != 0) = true := bne_iff_ne.mpr c2
    have c2b2 : ¬ (y264 = []) := fun h_ => c2 (by rw [h_]; rfl)
    by_cases c3 : (Int.tmod a0 (y264.length : Int)) < 0
    · rw [if_pos c3] at H
      have c3b0 : decide ((Int.tmod a0 (y264.length : Int)) < 0) = true := decide_eq_true c3
      clear c3
      obtain ⟨ji4, hji4⟩ : ∃ j_ : Int, (wrap64 ((Int.tmod a0 (y264.length : Int)) + (y264.length : Int))) = j_ := ⟨_, rfl⟩
      replace H : (if 0 ≤ (ji4) then (if (ji4) < (y264.length : Int) then (some (rdOf ByteArray.empty y264 (ji4))) else (none)) else (none)) = some r := by first | (rw [hji4] at H; exact H) | (simp only [hji4] at H ⊢; exact H)
      have hji4w : (IntKind.i64.wrap ((Int.tmod a0 (y264.length : Int)) + (y264.length : Int))) = ji4 := (i64_w _).trans hji4
      by_cases c5 : 0 ≤ (ji4)
      · rw [if_pos c5] at H
        have c5b0 : decide (0 ≤ (ji4)) = true := decide_eq_true c5
        clear c5
        by_cases c6 : (ji4) < (y264.length : Int)
        · rw [if_pos c6] at H
          have c6b0 : decide ((ji4) < (y264.length : Int)) = true := decide_eq_true c6
          clear c6
          obtain rfl := Option.some.inj H
          go_enter Tryd.func22, Tryd.ntmps22
          go_wp2_with (first | ((with_reducible refine gate_dst (N := 4) rfl ?_); refine Kd.R_lit Kd.string _ 9 ?hg (N := 4) ?hd (xs := ([(⟨#[32]⟩ : ByteArray), (⟨#[10]⟩ : ByteArray), (⟨#[9, 11, 12, 13, 32]⟩ : ByteArray), (⟨#[32, 47, 47, 32, 99, 32, 34, 32, 39, 10]⟩ : ByteArray), (⟨#[32, 47, 42, 32, 39, 32, 42, 32, 47, 32, 42, 47, 32]⟩ : ByteArray), (⟨#[32, 32, 47, 42, 42, 47]⟩ : ByteArray), (⟨#[32, 47, 42, 47, 42, 47]⟩ : ByteArray), (⟨#[32, 47, 47, 10, 47, 47, 10]⟩ : ByteArray)] : List ByteArray)) (inner := [.string (⟨#[32]⟩ : ByteArray), .string (⟨#[10]⟩ : ByteArray), .string (⟨#[9, 11, 12, 13, 32]⟩ : ByteArray), .string (⟨#[32, 47, 47, 32, 99, 32, 34, 32, 39, 10]⟩ : ByteArray), .string (⟨#[32, 47, 42, 32, 39, 32, 42, 32, 47, 32, 42, 47, 32]⟩ : ByteArray), .string (⟨#[32, 32, 47, 42, 42, 47]⟩ : ByteArray), .string (⟨#[32, 47, 42, 47, 42, 47]⟩ : ByteArray), .string (⟨#[32, 47, 47, 10, 47, 47, 10]⟩ : ByteArray)]) (ok := fun _ => True) (okp := fun _ => True) ?hr ?hp (fun _ hk => hk) trivial (Below.refl _ _) (Nat.le_refl _) (by simp) ?_; (case hd => rfl); (case hg => rfl); (case hr => first | (go_simp; done) | (go_simp; rfl)); (case hp => exact (Reps.one (show Kd.M Kd.string _ _ _ (⟨#[32]⟩ : ByteArray) [.string (⟨#[32]⟩ : ByteArray)] from rfl) (Reps.one (show Kd.M Kd.string _ _ _ (⟨#[10]⟩ : ByteArray) [.string (⟨#[10]⟩ : ByteArray)] from rfl) (Reps.one (show Kd.M Kd.string _ _ _ (⟨#[9, 11, 12, 13, 32]⟩ : ByteArray) [.string (⟨#[9, 11, 12, 13, 32]⟩ : ByteArray)] from rfl) (Reps.one (show Kd.M Kd.string _ _ _ (⟨#[32, 47, 47, 32, 99, 32, 34, 32, 39, 10]⟩ : ByteArray) [.string (⟨#[32, 47, 47, 32, 99, 32, 34, 32, 39, 10]⟩ : ByteArray)] from rfl) (Reps.one (show Kd.M Kd.string _ _ _ (⟨#[32, 47, 42, 32, 39, 32, 42, 32, 47, 32, 42, 47, 32]⟩ : ByteArray) [.string (⟨#[32, 47, 42, 32, 39, 32, 42, 32, 47, 32, 42, 47, 32]⟩ : ByteArray)] from rfl) (Reps.one (show Kd.M Kd.string _ _ _ (⟨#[32, 32, 47, 42, 42, 47]⟩ : ByteArray) [.string (⟨#[32, 32, 47, 42, 42, 47]⟩ : ByteArray)] from rfl) (Reps.one (show Kd.M Kd.string _ _ _ (⟨#[32, 47, 42, 47, 42, 47]⟩ : ByteArray) [.string (⟨#[32, 47, 42, 47, 42, 47]⟩ : ByteArray)] from rfl) (Reps.one (show Kd.M Kd.string _ _ _ (⟨#[32, 47, 47, 10, 47, 47, 10]⟩ : ByteArray) [.string (⟨#[32, 47, 47, 10, 47, 47, 10]⟩ : ByteArray)] from rfl) (Reps.none _ _)))))))))); intro v265 w7 ho8 hb hg_ hnew_; clear hg_ hnew_; (first | rw [← Ny264.out] at ho8 | (simp only [Int.reduceToNat] at ho8; rw [← Ny264.out] at ho8)); have n0_ := Aside0.mk (Kd.R_lower ho8 (below_size (by repeat (first | (with_reducible first | exact HB.out | apply below_alloc | apply pw_below_drewN | apply below_drew1) | exact HB.out)))); have n1_ := Aside0.mk (below_step (by repeat (first | (with_reducible first | exact HB.out | apply below_alloc | apply pw_below_drewN | apply below_drew1) | exact HB.out)) hb); clear HB; have HO266 := n0_; have HB := n1_; clear n0_ n1_; clear hb ho8; obtain ⟨Ao9, co9, eo9⟩ := Kd.R_slice HO266.out; subst eo9; have p267 : 0 ≤ ((ji4) : Int) := of_decide_eq_true (by first | (with_reducible assumption) | assumption); have q267 : (ji4) < (y264.length : Int) := of_decide_eq_true (by first | (with_reducible assumption) | assumption); obtain ⟨ad267, e267, hx267_0⟩ := Kd.at_string (Kd.R_reads' HO266.out).2.2 (ji4) p267 q267; cases e267; replace p267 := eq_true p267; replace q267 := eq_true q267))
          go_ret
          exact ⟨by first | rfl | (simp [errW_none, errW_some] <;> rfl) | (simp only [← hji4]; first | rfl | (simp [errW_none, errW_some] <;> rfl)) | (simp [*, errW_none, errW_some] <;> rfl), by repeat (first | (with_reducible first | exact HB.out | apply below_alloc | apply pw_below_drewN | apply below_drew1) | exact HB.out)⟩
        · rw [if_neg c6] at H
          exact absurd H (by simp)
      · rw [if_neg c5] at H
        exact absurd H (by simp)
    · rw [if_neg c3] at H
      have c3b0 : decide ((Int.tmod a0 (y264.length : Int)) < 0) = false := decide_eq_false c3
      clear c3
      obtain ⟨ji10, hji10⟩ : ∃ j_ : Int, (Int.tmod a0 (y264.length : Int)) = j_ := ⟨_, rfl⟩
      replace H : (if 0 ≤ (ji10) then (if (ji10) < (y264.length : Int) then (some (rdOf ByteArray.empty y264 (ji10))) else (none)) else (none)) = some r := by first | (rw [hji10] at H; exact H) | (simp only [hji10] at H ⊢; exact H)
      (try rw [hji10] at c3b0)
      by_cases c11 : 0 ≤ (ji10)
      · rw [if_pos c11] at H
        have c11b0 : decide (0 ≤ (ji10)) = true := decide_eq_true c11
        clear c11
        by_cases c12 : (ji10) < (y264.length : Int)
        · rw [if_pos c12] at H
          have c12b0 : decide ((ji10) < (y264.length : Int)) = true := decide_eq_true c12
          clear c12
          obtain rfl := Option.some.inj H
          go_enter Tryd.func22, Tryd.ntmps22
          go_wp2_with (first | ((with_reducible refine gate_dst (N := 4) rfl ?_); refine Kd.R_lit Kd.string _ 9 ?hg (N := 4) ?hd (xs := ([(⟨#[32]⟩ : ByteArray), (⟨#[10]⟩ : ByteArray), (⟨#[9, 11, 12, 13, 32]⟩ : ByteArray), (⟨#[32, 47, 47, 32, 99, 32, 34, 32, 39, 10]⟩ : ByteArray), (⟨#[32, 47, 42, 32, 39, 32, 42, 32, 47, 32, 42, 47, 32]⟩ : ByteArray), (⟨#[32, 32, 47, 42, 42, 47]⟩ : ByteArray), (⟨#[32, 47, 42, 47, 42, 47]⟩ : ByteArray), (⟨#[32, 47, 47, 10, 47, 47, 10]⟩ : ByteArray)] : List ByteArray)) (inner := [.string (⟨#[32]⟩ : ByteArray), .string (⟨#[10]⟩ : ByteArray), .string (⟨#[9, 11, 12, 13, 32]⟩ : ByteArray), .string (⟨#[32, 47, 47, 32, 99, 32, 34, 32, 39, 10]⟩ : ByteArray), .string (⟨#[32, 47, 42, 32, 39, 32, 42, 32, 47, 32, 42, 47, 32]⟩ : ByteArray), .string (⟨#[32, 32, 47, 42, 42, 47]⟩ : ByteArray), .string (⟨#[32, 47, 42, 47, 42, 47]⟩ : ByteArray), .string (⟨#[32, 47, 47, 10, 47, 47, 10]⟩ : ByteArray)]) (ok := fun _ => True) (okp := fun _ => True) ?hr ?hp (fun _ hk => hk) trivial (Below.refl _ _) (Nat.le_refl _) (by simp) ?_; (case hd => rfl); (case hg => rfl); (case hr => first | (go_simp; done) | (go_simp; rfl)); (case hp => exact (Reps.one (show Kd.M Kd.string _ _ _ (⟨#[32]⟩ : ByteArray) [.string (⟨#[32]⟩ : ByteArray)] from rfl) (Reps.one (show Kd.M Kd.string _ _ _ (⟨#[10]⟩ : ByteArray) [.string (⟨#[10]⟩ : ByteArray)] from rfl) (Reps.one (show Kd.M Kd.string _ _ _ (⟨#[9, 11, 12, 13, 32]⟩ : ByteArray) [.string (⟨#[9, 11, 12, 13, 32]⟩ : ByteArray)] from rfl) (Reps.one (show Kd.M Kd.string _ _ _ (⟨#[32, 47, 47, 32, 99, 32, 34, 32, 39, 10]⟩ : ByteArray) [.string (⟨#[32, 47, 47, 32, 99, 32, 34, 32, 39, 10]⟩ : ByteArray)] from rfl) (Reps.one (show Kd.M Kd.string _ _ _ (⟨#[32, 47, 42, 32, 39, 32, 42, 32, 47, 32, 42, 47, 32]⟩ : ByteArray) [.string (⟨#[32, 47, 42, 32, 39, 32, 42, 32, 47, 32, 42, 47, 32]⟩ : ByteArray)] from rfl) (Reps.one (show Kd.M Kd.string _ _ _ (⟨#[32, 32, 47, 42, 42, 47]⟩ : ByteArray) [.string (⟨#[32, 32, 47, 42, 42, 47]⟩ : ByteArray)] from rfl) (Reps.one (show Kd.M Kd.string _ _ _ (⟨#[32, 47, 42, 47, 42, 47]⟩ : ByteArray) [.string (⟨#[32, 47, 42, 47, 42, 47]⟩ : ByteArray)] from rfl) (Reps.one (show Kd.M Kd.string _ _ _ (⟨#[32, 47, 47, 10, 47, 47, 10]⟩ : ByteArray) [.string (⟨#[32, 47, 47, 10, 47, 47, 10]⟩ : ByteArray)] from rfl) (Reps.none _ _)))))))))); intro v265 w13 ho14 hb hg_ hnew_; clear hg_ hnew_; (first | rw [← Ny264.out] at ho14 | (simp only [Int.reduceToNat] at ho14; rw [← Ny264.out] at ho14)); have n0_ := Aside0.mk (Kd.R_lower ho14 (below_size (by repeat (first | (with_reducible first | exact HB.out | apply below_alloc | apply pw_below_drewN | apply below_drew1) | exact HB.out)))); have n1_ := Aside0.mk (below_step (by repeat (first | (with_reducible first | exact HB.out | apply below_alloc | apply pw_below_drewN | apply below_drew1) | exact HB.out)) hb); clear HB; have HO266 := n0_; have HB := n1_; clear n0_ n1_; clear hb ho14; obtain ⟨Ao15, co15, eo15⟩ := Kd.R_slice HO266.out; subst eo15; have p268 : 0 ≤ ((ji10) : Int) := of_decide_eq_true (by first | (with_reducible assumption) | assumption); have q268 : (ji10) < (y264.length : Int) := of_decide_eq_true (by first | (with_reducible assumption) | assumption); obtain ⟨ad268, e268, hx268_0⟩ := Kd.at_string (Kd.R_reads' HO266.out).2.2 (ji10) p268 q268; cases e268; replace p268 := eq_true p268; replace q268 := eq_true q268))
          go_ret
          exact ⟨by first | rfl | (simp [errW_none, errW_some] <;> rfl) | (simp only [← hji10]; first | rfl | (simp [errW_none, errW_some] <;> rfl)) | (simp [*, errW_none, errW_some] <;> rfl), by repeat (first | (with_reducible first | exact HB.out | apply below_alloc | apply pw_below_drewN | apply below_drew1) | exact HB.out)⟩
        · rw [if_neg c12] at H
          exact absurd H (by simp)
      · rw [if_neg c11] at H
        exact absurd H (by simp)

/-! ### sigillaw4_kinds: function 23 -/
def sigillaw4_kinds.l0 : Nat → List (S40) → List (S40) → Int → Option (Bool)
  | 0, _, _, _ => none
  | k + 1, x0, x1, x5 => if x5 < (x0.length : Int) then (if 0 ≤ x5 then (if x5 < (x1.length : Int) then (if ((rd_T40 x0 x5).f0) = ((rd_T40 x1 x5).f0) then (if ((rd_T40 x0 x5).f2).toList = ((rd_T40 x1 x5).f2).toList then (sigillaw4_kinds.l0 k x0 x1 (wrap64 (x5 + 1))) else (some false)) else (some false)) else (none)) else (none)) else (some true)
def sigillaw4_kinds.f (k : Nat) (l0 : List (S40)) (l1 : List (S40)) : Option (Bool) := if (l0.length : Int) = (l1.length : Int) then (sigillaw4_kinds.l0 k l0 l1 0) else (some false)
theorem sigillaw4_kinds.mono_l : ∀ k, (∀ y0 y1 y2, LeO (sigillaw4_kinds.l0 k y0 y1 y2) (sigillaw4_kinds.l0 (k + 1) y0 y1 y2))
  | 0 => fun _ _ _ r h => by simp [sigillaw4_kinds.l0] at h
  | k + 1 => by
    have ih0 := sigillaw4_kinds.mono_l k
    · intro y0 y1 y2
      unfold sigillaw4_kinds.l0
      repeat' first
      | (with_reducible exact ih0 _ _ _)
      | (with_reducible exact LeO.refl _)
      | (with_reducible exact LeO.none _)
      | (with_reducible refine LeO.ite ?_ ?_)
      | (with_reducible refine LeO.bind ?_ (fun _ => ?_))
      | exact ih0 _ _ _
      | exact LeO.none _
      | refine LeO.ite ?_ ?_
      | refine LeO.bind ?_ (fun _ => ?_)
theorem sigillaw4_kinds.mono : ∀ a0 a1 k, LeO (sigillaw4_kinds.f k a0 a1) (sigillaw4_kinds.f (k + 1) a0 a1) := by
  intro a0 a1 k
  have ih0 := sigillaw4_kinds.mono_l k
  unfold sigillaw4_kinds.f
  repeat' first
      | (with_reducible exact ih0 _ _ _)
      | (with_reducible exact LeO.refl _)
      | (with_reducible exact LeO.none _)
      | (with_reducible refine LeO.ite ?_ ?_)
      | (with_reducible refine LeO.bind ?_ (fun _ => ?_))
      | exact ih0 _ _ _
      | exact LeO.none _
      | refine LeO.ite ?_ ?_
      | refine LeO.bind ?_ (fun _ => ?_)
set_option maxHeartbeats 8000000 in
set_option maxRecDepth 100000 in
theorem sigillaw4_kinds.calls (k : Nat) (A0 : Option Addr) (c0 : Nat) (l0 : List (S40)) (A1 : Option Addr) (c1 : Nat) (l1 : List (S40)) (r : Bool) (w : World) (hr0 : Kd.C k40 w A0 l0.length l0) (hc0 : l0.length ≤ c0) (hr1 : Kd.C k40 w A1 l1.length l1) (hc1 : l1.length ≤ c1) (h : sigillaw4_kinds.f k l0 l1 = some r) :
    Calls Tryd.prog 23 #[.slice A0 l0.length c0, .slice A1 l1.length c1] w fun e w' => e = .returned (.bool r) ∧ Drawn0 w w' := by
  have HR0 := Aside0.mk hr0
  have HC0 := Aside0.mk hc0
  clear hr0 hc0
  have HR1 := Aside0.mk hr1
  have HC1 := Aside0.mk hc1
  clear hr1 hc1
  have H : (if (l0.length : Int) = (l1.length : Int) then (sigillaw4_kinds.l0 k l0 l1 0) else (some false)) = some r := h
  clear h
  by_cases c3 : (l0.length : Int) = (l1.length : Int)
  · rw [if_pos c3] at H
    have c3b0 : ((l0.length : Int) == (l1.length : Int)) = true := beq_iff_eq.mpr c3
    have c3b1 : ((l0.length : Int) != (l1.length : Int)) = false := bne_eq_false_iff_eq.mpr c3
    have c3b2 : (l0.length == l1.length) = true := by first | simpa using c3 | (simp at c3 ⊢; omega)
    clear c3
    have H' := Aside0.mk H
    clear H
    go_enter Tryd.func23, Tryd.ntmps23
    go_wp2
    repeat (go_quiet (fail); try go_wp2)
    go_loopg [5] k (fun kq v5 w' => ∃ (x5_1 : Int), v5 = .int .i64 x5_1 ∧ Aside0 (sigillaw4_kinds.l0 kq l0 l1 x5_1 = some r) ∧ Aside0 (kq ≤ k) ∧ Drawn0 w w')
    case atStart => exact ⟨(0), (by first | rfl | (simp; done) | (simp [*]; done)), H', ⟨Nat.le_refl _⟩, by repeat (first | exact Drawn0.refl _ | apply Drawn0.step)⟩
    case round =>
      clear H'
      try clear c1
      try clear c2
      try clear p2
      try clear c3
      try clear c3b0
      try clear c3b1
      try clear c3b2
      obtain ⟨x5_1, rfl, HA, HK1, ⟨m1, rfl⟩⟩ := hrel
      cases gk with
      | zero => exact absurd HA.out (by simp [sigillaw4_kinds.l0])
      | succ k1 =>
        have H := HA.out
        clear HA
        simp only [sigillaw4_kinds.l0] at H
        by_cases c4 : x5_1 < (l0.length : Int)
        · rw [if_pos c4] at H
          have c4b0 : decide (x5_1 < (l0.length : Int)) = true := decide_eq_true c4
          clear c4
          by_cases c5 : 0 ≤ x5_1
          · rw [if_pos c5] at H
            have c5b0 : decide (0 ≤ x5_1) = true := decide_eq_true c5
            clear c5
            by_cases c6 : x5_1 < (l1.length : Int)
            · rw [if_pos c6] at H
              have c6b0 : decide (x5_1 < (l1.length : Int)) = true := decide_eq_true c6
              clear c6
              by_cases c7 : ((rd_T40 l0 x5_1).f0) = ((rd_T40 l1 x5_1).f0)
              · rw [if_pos c7] at H
                have c7b0 : (((rd_T40 l0 x5_1).f0) == ((rd_T40 l1 x5_1).f0)) = true := beq_iff_eq.mpr c7
                have c7b1 : (((rd_T40 l0 x5_1).f0) != ((rd_T40 l1 x5_1).f0)) = false := bne_eq_false_iff_eq.mpr c7
                clear c7
                by_cases c8 : ((rd_T40 l0 x5_1).f2).toList = ((rd_T40 l1 x5_1).f2).toList
                · rw [if_pos c8] at H
                  have c8b0 : (((rd_T40 l0 x5_1).f2).toList == ((rd_T40 l1 x5_1).f2).toList) = true := beq_iff_eq.mpr c8
                  have c8b1 : (((rd_T40 l0 x5_1).f2).toList != ((rd_T40 l1 x5_1).f2).toList) = false := bne_eq_false_iff_eq.mpr c8
                  clear c8
                  have H' := Aside0.mk H
                  clear H
                  have p269 : 0 ≤ (x5_1 : Int) := of_decide_eq_true (by first | (with_reducible assumption) | assumption)
                  have q269 : x5_1 < (l0.length : Int) := of_decide_eq_true (by first | (with_reducible assumption) | assumption)
                  obtain ⟨ad269, e269, hx269_0, hx269_1, hx269_2⟩ := at_T40 HR0.out x5_1 p269 q269
                  cases e269
                  replace p269 := eq_true p269
                  replace q269 := eq_true q269
                  have p270 : 0 ≤ (x5_1 : Int) := of_decide_eq_true (by first | (with_reducible assumption) | assumption)
                  have q270 : x5_1 < (l1.length : Int) := of_decide_eq_true (by first | (with_reducible assumption) | assumption)
                  obtain ⟨ad270, e270, hx270_0, hx270_1, hx270_2⟩ := at_T40 HR1.out x5_1 p270 q270
                  cases e270
                  replace p270 := eq_true p270
                  replace q270 := eq_true q270
                  have p271 : 0 ≤ (x5_1 : Int) := of_decide_eq_true (by first | (with_reducible assumption) | assumption)
                  have q271 : x5_1 < (l0.length : Int) := of_decide_eq_true (by first | (with_reducible assumption) | assumption)
                  obtain ⟨ad271, e271, hx271_0, hx271_1, hx271_2⟩ := at_T40 HR0.out x5_1 p271 q271
                  obtain rfl : ad269 = ad271 := (by injection e271)
                  replace p271 := eq_true p271
                  replace q271 := eq_true q271
                  have p272 : 0 ≤ (x5_1 : Int) := of_decide_eq_true (by first | (with_reducible assumption) | assumption)
                  have q272 : x5_1 < (l1.length : Int) := of_decide_eq_true (by first | (with_reducible assumption) | assumption)
                  obtain ⟨ad272, e272, hx272_0, hx272_1, hx272_2⟩ := at_T40 HR1.out x5_1 p272 q272
                  obtain rfl : ad270 = ad272 := (by injection e272)
                  replace p272 := eq_true p272
                  replace q272 := eq_true q272
                  go_wp2
                  repeat (go_quiet (fail); try go_wp2)
                  go_roundg k1
                  case measure => have := HK1.out; omega
                  case rel => exact ⟨(wrap64 (x5_1 + 1)), (by first | rfl | (simp; done) | (simp [*]; done)), H', ⟨by have := HK1.out; omega⟩, by repeat (first | exact Drawn0.refl _ | apply Drawn0.step)⟩
                · rw [if_neg c8] at H
                  have c8b0 : (((rd_T40 l0 x5_1).f2).toList == ((rd_T40 l1 x5_1).f2).toList) = false := beq_eq_false_iff_ne.mpr c8
                  have c8b1 : (((rd_T40 l0 x5_1).f2).toList != ((rd_T40 l1 x5_1).f2).toList) = true := bne_iff_ne.mpr c8
                  obtain rfl := Option.some.inj H
                  have p269 : 0 ≤ (x5_1 : Int) := of_decide_eq_true (by first | (with_reducible assumption) | assumption)
                  have q269 : x5_1 < (l0.length : Int) := of_decide_eq_true (by first | (with_reducible assumption) | assumption)
                  obtain ⟨ad269, e269, hx269_0, hx269_1, hx269_2⟩ := at_T40 HR0.out x5_1 p269 q269
                  cases e269
                  replace p269 := eq_true p269
                  replace q269 := eq_true q269
                  have p270 : 0 ≤ (x5_1 : Int) := of_decide_eq_true (by first | (with_reducible assumption) | assumption)
                  have q270 : x5_1 < (l1.length : Int) := of_decide_eq_true (by first | (with_reducible assumption) | assumption)
                  obtain ⟨ad270, e270, hx270_0, hx270_1, hx270_2⟩ := at_T40 HR1.out x5_1 p270 q270
                  cases e270
                  replace p270 := eq_true p270
                  replace q270 := eq_true q270
                  have p271 : 0 ≤ (x5_1 : Int) := of_decide_eq_true (by first | (with_reducible assumption) | assumption)
                  have q271 : x5_1 < (l0.length : Int) := of_decide_eq_true (by first | (with_reducible assumption) | assumption)
                  obtain ⟨ad271, e271, hx271_0, hx271_1, hx271_2⟩ := at_T40 HR0.out x5_1 p271 q271
                  obtain rfl : ad269 = ad271 := (by injection e271)
                  replace p271 := eq_true p271
                  replace q271 := eq_true q271
                  have p272 : 0 ≤ (x5_1 : Int) := of_decide_eq_true (by first | (with_reducible assumption) | assumption)
                  have q272 : x5_1 < (l1.length : Int) := of_decide_eq_true (by first | (with_reducible assumption) | assumption)
                  obtain ⟨ad272, e272, hx272_0, hx272_1, hx272_2⟩ := at_T40 HR1.out x5_1 p272 q272
                  obtain rfl : ad270 = ad272 := (by injection e272)
                  replace p272 := eq_true p272
                  replace q272 := eq_true q272
                  go_wp2
                  repeat (go_quiet (fail); try go_wp2)
                  go_ret
                  exact ⟨by first | rfl | (simp; done) | (simp [*]; done), by repeat (first | exact Drawn0.refl _ | apply Drawn0.step)⟩
              · rw [if_neg c7] at H
                have c7b0 : (((rd_T40 l0 x5_1).f0) == ((rd_T40 l1 x5_1).f0)) = false := beq_eq_false_iff_ne.mpr c7
                have c7b1 : (((rd_T40 l0 x5_1).f0) != ((rd_T40 l1 x5_1).f0)) = true := bne_iff_ne.mpr c7
                obtain rfl := Option.some.inj H
                have p269 : 0 ≤ (x5_1 : Int) := of_decide_eq_true (by first | (with_reducible assumption) | assumption)
                have q269 : x5_1 < (l0.length : Int) := of_decide_eq_true (by first | (with_reducible assumption) | assumption)
                obtain ⟨ad269, e269, hx269_0, hx269_1, hx269_2⟩ := at_T40 HR0.out x5_1 p269 q269
                cases e269
                replace p269 := eq_true p269
                replace q269 := eq_true q269
                have p270 : 0 ≤ (x5_1 : Int) := of_decide_eq_true (by first | (with_reducible assumption) | assumption)
                have q270 : x5_1 < (l1.length : Int) := of_decide_eq_true (by first | (with_reducible assumption) | assumption)
                obtain ⟨ad270, e270, hx270_0, hx270_1, hx270_2⟩ := at_T40 HR1.out x5_1 p270 q270
                cases e270
                replace p270 := eq_true p270
                replace q270 := eq_true q270
                go_wp2
                repeat (go_quiet (fail); try go_wp2)
                go_ret
                exact ⟨by first | rfl | (simp; done) | (simp [*]; done), by repeat (first | exact Drawn0.refl _ | apply Drawn0.step)⟩
            · rw [if_neg c6] at H
              exact absurd H (by simp)
          · rw [if_neg c5] at H
            exact absurd H (by simp)
        · rw [if_neg c4] at H
          have c4b0 : decide (x5_1 < (l0.length : Int)) = false := decide_eq_false c4
          clear c4
          obtain rfl := Option.some.inj H
          go_wp2
          repeat (go_quiet (fail); try go_wp2)
          go_ret
          exact ⟨by first | rfl | (simp; done) | (simp [*]; done), by repeat (first | exact Drawn0.refl _ | apply Drawn0.step)⟩
  · rw [if_neg c3] at H
    have c3b0 : ((l0.length : Int) == (l1.length : Int)) = false := beq_eq_false_iff_ne.mpr c3
    have c3b1 : ((l0.length : Int) != (l1.length : Int)) = true := bne_iff_ne.mpr c3
    have c3b2 : (l0.length == l1.length) = false := by first | simpa using c3 | (simp at c3 ⊢; omega)
    obtain rfl := Option.some.inj H
    go_enter Tryd.func23, Tryd.ntmps23
    go_wp2
    repeat (go_quiet (fail); try go_wp2)
    go_ret
    exact ⟨by first | rfl | (simp; done) | (simp [*]; done), by repeat (first | exact Drawn0.refl _ | apply Drawn0.step)⟩
/-! ### sigillaw4_ScanPlaces: function 8 -/
mutual
def sigillaw4_ScanPlaces.j0 : Nat → ByteArray → List Int → List (S40) → Bool → Option (Bool)
  | 0, _, _, _, _ => none
  | k + 1, x0, x1, x5, x53 => if x53 = true then (some false) else (sigillaw4_ScanPlaces.l0 k x0 x1 x5 0 ([] : List Int) 0)
def sigillaw4_ScanPlaces.l0 : Nat → ByteArray → List Int → List (S40) → Int → List Int → Int → Option (Bool)
  | 0, _, _, _, _, _, _ => none
  | k + 1, x0, x1, x5, x8, x9, x10 => if x10 < (x5.length : Int) then (if 0 ≤ x10 then (if ((rd_T40 x5 x10).f1) < x8 then (sigillaw4_ScanPlaces.j2 k x0 x1 x5 x9 x10 true ((rd_T40 x5 x10).f0) ((rd_T40 x5 x10).f1) ((rd_T40 x5 x10).f2)) else (if ((rd_T40 x5 x10).f1) > (wrap64 ((x0.size : Int) - (((rd_T40 x5 x10).f2).size : Int))) then (sigillaw4_ScanPlaces.j2 k x0 x1 x5 x9 x10 true ((rd_T40 x5 x10).f0) ((rd_T40 x5 x10).f1) ((rd_T40 x5 x10).f2)) else (if 0 ≤ ((rd_T40 x5 x10).f1) then (if ((rd_T40 x5 x10).f1) ≤ (wrap64 (((rd_T40 x5 x10).f1) + (((rd_T40 x5 x10).f2).size : Int))) then (if (wrap64 (((rd_T40 x5 x10).f1) + (((rd_T40 x5 x10).f2).size : Int))) ≤ (x0.size : Int) then (if (x0.extract (((rd_T40 x5 x10).f1) : Int).toNat ((wrap64 (((rd_T40 x5 x10).f1) + (((rd_T40 x5 x10).f2).size : Int))) : Int).toNat).toList = ((rd_T40 x5 x10).f2).toList then (if ((rd_T40 x5 x10).f0) < 1 then (sigillaw4_ScanPlaces.j2 k x0 x1 x5 x9 x10 true ((rd_T40 x5 x10).f0) ((rd_T40 x5 x10).f1) ((rd_T40 x5 x10).f2)) else (if ((rd_T40 x5 x10).f0) > 5 then (sigillaw4_ScanPlaces.j2 k x0 x1 x5 x9 x10 true ((rd_T40 x5 x10).f0) ((rd_T40 x5 x10).f1) ((rd_T40 x5 x10).f2)) else (sigillaw4_ScanPlaces.j2 k x0 x1 x5 x9 x10 ((((rd_T40 x5 x10).f2).toList == ([] : List UInt8)) != (x10 == (wrap64 ((x5.length : Int) - 1)))) ((rd_T40 x5 x10).f0) ((rd_T40 x5 x10).f1) ((rd_T40 x5 x10).f2)))) else (sigillaw4_ScanPlaces.j2 k x0 x1 x5 x9 x10 true ((rd_T40 x5 x10).f0) ((rd_T40 x5 x10).f1) ((rd_T40 x5 x10).f2))) else (none)) else (none)) else (none)))) else (none)) else ((scan_Tokens.f k (strOfNums x9)).bind fun bt293 => (if ((strOfNums x9).size : Int) > 65536 then (some (bt293.2.2 == 2)) else (if bt293.2.2 = 0 then ((sigillaw4_kinds.f k x5 bt293.1).bind fun t298 => (some t298)) else (some false))))
def sigillaw4_ScanPlaces.j2 : Nat → ByteArray → List Int → List (S40) → List Int → Int → Bool → Int → Int → ByteArray → Option (Bool)
  | 0, _, _, _, _, _, _, _, _, _ => none
  | k + 1, x0, x1, x5, x9, x10, x114, x282000, x282001, x282002 => if x114 = true then (some false) else (if x9.length + x282002.size < 140737488355328 then ((some (x9 ++ bytesOf x282002 : List Int)).bind fun y282 => (if (x1.length : Int) > 0 then (if (x1.length : Int) = 0 then (none) else (if 0 ≤ (Int.tmod x10 (x1.length : Int)) then (if (Int.tmod x10 (x1.length : Int)) < (x1.length : Int) then ((sigillaw4_fill.f (rd x1 (Int.tmod x10 (x1.length : Int)))).bind fun t286 => (if y282.length + t286.size < 140737488355328 then (sigillaw4_ScanPlaces.l0 k x0 x1 x5 (wrap64 (x282001 + (x282002.size : Int))) (y282 ++ bytesOf t286) (wrap64 (x10 + 1))) else (none))) else (none)) else (none))) else (if y282.length < 140737488355328 then (sigillaw4_ScanPlaces.l0 k x0 x1 x5 (wrap64 (x282001 + (x282002.size : Int))) (y282 ++ [32]) (wrap64 (x10 + 1))) else (none)))) else (none))
end
def sigillaw4_ScanPlaces.f (k : Nat) (a0 : ByteArray) (l1 : List Int) : Option (Bool) := (sigillaw4_head.f k).bind fun t273 => (if t273 = true then ((scan_Tokens.f k a0).bind fun bt274 => (if bt274.2.2 = 0 then (if (bt274.1.length : Int) < 1 then (sigillaw4_ScanPlaces.j0 k a0 l1 bt274.1 true) else (if 0 ≤ (wrap64 ((bt274.1.length : Int) - 1)) then (if (wrap64 ((bt274.1.length : Int) - 1)) < (bt274.1.length : Int) then (sigillaw4_ScanPlaces.j0 k a0 l1 bt274.1 (!(((rd_T40 bt274.1 (wrap64 ((bt274.1.length : Int) - 1))).f0) == 5) || (!(((rd_T40 bt274.1 (wrap64 ((bt274.1.length : Int) - 1))).f1) == (a0.size : Int)) || (!((((rd_T40 bt274.1 (wrap64 ((bt274.1.length : Int) - 1))).f2).toList) == ([] : List UInt8)))))) else (none)) else (none))) else (if (bt274.1.length : Int) = 0 then (if bt274.2.1 ≥ 0 then (some (decide (bt274.2.1 ≤ (a0.size : Int)))) else (some false)) else (some false)))) else (some false))
theorem sigillaw4_ScanPlaces.mono_l : ∀ k, (∀ y0 y1 y2 y3, LeO (sigillaw4_ScanPlaces.j0 k y0 y1 y2 y3) (sigillaw4_ScanPlaces.j0 (k + 1) y0 y1 y2 y3)) ∧ (∀ y0 y1 y2 y3 y4 y5, LeO (sigillaw4_ScanPlaces.l0 k y0 y1 y2 y3 y4 y5) (sigillaw4_ScanPlaces.l0 (k + 1) y0 y1 y2 y3 y4 y5)) ∧ (∀ y0 y1 y2 y3 y4 y5 y6 y7 y8, LeO (sigillaw4_ScanPlaces.j2 k y0 y1 y2 y3 y4 y5 y6 y7 y8) (sigillaw4_ScanPlaces.j2 (k + 1) y0 y1 y2 y3 y4 y5 y6 y7 y8))
  | 0 => ⟨fun _ _ _ _ r h => by simp [sigillaw4_ScanPlaces.j0] at h, fun _ _ _ _ _ _ r h => by simp [sigillaw4_ScanPlaces.l0] at h, fun _ _ _ _ _ _ _ _ _ r h => by simp [sigillaw4_ScanPlaces.j2] at h⟩
  | k + 1 => by
    obtain ⟨ih0, ih1, ih2⟩ := sigillaw4_ScanPlaces.mono_l k
    refine ⟨?_, ?_, ?_⟩
    · intro y0 y1 y2 y3
      unfold sigillaw4_ScanPlaces.j0
      repeat' first
      | (with_reducible exact ih0 _ _ _ _)
      | (with_reducible exact ih1 _ _ _ _ _ _)
      | (with_reducible exact ih2 _ _ _ _ _ _ _ _ _)
      | (with_reducible exact scan_Tokens.mono _ _)
      | (with_reducible exact sigillaw4_head.mono _)
      | (with_reducible exact sigillaw4_kinds.mono _ _ _)
      | (with_reducible exact LeO.refl _)
      | (with_reducible exact LeO.none _)
      | (with_reducible refine LeO.ite ?_ ?_)
      | (with_reducible refine LeO.bind ?_ (fun _ => ?_))
      | exact ih0 _ _ _ _
      | exact ih1 _ _ _ _ _ _
      | exact ih2 _ _ _ _ _ _ _ _ _
      | exact scan_Tokens.mono _ _
      | exact sigillaw4_head.mono _
      | exact sigillaw4_kinds.mono _ _ _
      | exact LeO.none _
      | refine LeO.ite ?_ ?_
      | refine LeO.bind ?_ (fun _ => ?_)
    · intro y0 y1 y2 y3 y4 y5
      unfold sigillaw4_ScanPlaces.l0
      repeat' first
      | (with_reducible exact ih0 _ _ _ _)
      | (with_reducible exact ih1 _ _ _ _ _ _)
      | (with_reducible exact ih2 _ _ _ _ _ _ _ _ _)
      | (with_reducible exact scan_Tokens.mono _ _)
      | (with_reducible exact sigillaw4_head.mono _)
      | (with_reducible exact sigillaw4_kinds.mono _ _ _)
      | (with_reducible exact LeO.refl _)
      | (with_reducible exact LeO.none _)
      | (with_reducible refine LeO.ite ?_ ?_)
      | (with_reducible refine LeO.bind ?_ (fun _ => ?_))
      | exact ih0 _ _ _ _
      | exact ih1 _ _ _ _ _ _
      | exact ih2 _ _ _ _ _ _ _ _ _
      | exact scan_Tokens.mono _ _
      | exact sigillaw4_head.mono _
      | exact sigillaw4_kinds.mono _ _ _
      | exact LeO.none _
      | refine LeO.ite ?_ ?_
      | refine LeO.bind ?_ (fun _ => ?_)
    · intro y0 y1 y2 y3 y4 y5 y6 y7 y8
      unfold sigillaw4_ScanPlaces.j2
      repeat' first
      | (with_reducible exact ih0 _ _ _ _)
      | (with_reducible exact ih1 _ _ _ _ _ _)
      | (with_reducible exact ih2 _ _ _ _ _ _ _ _ _)
      | (with_reducible exact scan_Tokens.mono _ _)
      | (with_reducible exact sigillaw4_head.mono _)
      | (with_reducible exact sigillaw4_kinds.mono _ _ _)
      | (with_reducible exact LeO.refl _)
      | (with_reducible exact LeO.none _)
      | (with_reducible refine LeO.ite ?_ ?_)
      | (with_reducible refine LeO.bind ?_ (fun _ => ?_))
      | exact ih0 _ _ _ _
      | exact ih1 _ _ _ _ _ _
      | exact ih2 _ _ _ _ _ _ _ _ _
      | exact scan_Tokens.mono _ _
      | exact sigillaw4_head.mono _
      | exact sigillaw4_kinds.mono _ _ _
      | exact LeO.none _
      | refine LeO.ite ?_ ?_
      | refine LeO.bind ?_ (fun _ => ?_)
theorem sigillaw4_ScanPlaces.mono : ∀ a0 a1 k, LeO (sigillaw4_ScanPlaces.f k a0 a1) (sigillaw4_ScanPlaces.f (k + 1) a0 a1) := by
  intro a0 a1 k
  obtain ⟨ih0, ih1, ih2⟩ := sigillaw4_ScanPlaces.mono_l k
  unfold sigillaw4_ScanPlaces.f
  repeat' first
      | (with_reducible exact ih0 _ _ _ _)
      | (with_reducible exact ih1 _ _ _ _ _ _)
      | (with_reducible exact ih2 _ _ _ _ _ _ _ _ _)
      | (with_reducible exact scan_Tokens.mono _ _)
      | (with_reducible exact sigillaw4_head.mono _)
      | (with_reducible exact sigillaw4_kinds.mono _ _ _)
      | (with_reducible exact LeO.refl _)
      | (with_reducible exact LeO.none _)
      | (with_reducible refine LeO.ite ?_ ?_)
      | (with_reducible refine LeO.bind ?_ (fun _ => ?_))
      | exact ih0 _ _ _ _
      | exact ih1 _ _ _ _ _ _
      | exact ih2 _ _ _ _ _ _ _ _ _
      | exact scan_Tokens.mono _ _
      | exact sigillaw4_head.mono _
      | exact sigillaw4_kinds.mono _ _ _
      | exact LeO.none _
      | refine LeO.ite ?_ ?_
      | refine LeO.bind ?_ (fun _ => ?_)
set_option maxHeartbeats 8000000 in
set_option maxRecDepth 100000 in
theorem sigillaw4_ScanPlaces.calls (k : Nat) (a0 : ByteArray) (A1 : Option Addr) (c1 : Nat) (l1 : List Int) (r : Bool) (w : World) (hr1 : Kd.C (Kd.int .i64) w A1 l1.length l1) (hc1 : l1.length ≤ c1) (h : sigillaw4_ScanPlaces.f k a0 l1 = some r) (hL : LaidW w) :
    Calls Tryd.prog 8 #[.string a0, .slice A1 l1.length c1] w fun e w' => e = .returned (.bool r) ∧ Below w.heap.size w w' := by
  have HL := Aside0.mk hL
  clear hL
  have hu40 := Tryd.underlying40
  have HR1 := Aside0.mk hr1
  have HC1 := Aside0.mk hc1
  clear hr1 hc1
  have HB := Aside0.mk (Below.refl w.heap.size w)
  have H : ((sigillaw4_head.f k).bind fun t273 => (if t273 = true then ((scan_Tokens.f k a0).bind fun bt274 => (if bt274.2.2 = 0 then (if (bt274.1.length : Int) < 1 then (sigillaw4_ScanPlaces.j0 k a0 l1 bt274.1 true) else (if 0 ≤ (wrap64 ((bt274.1.length : Int) - 1)) then (if (wrap64 ((bt274.1.length : Int) - 1)) < (bt274.1.length : Int) then (sigillaw4_ScanPlaces.j0 k a0 l1 bt274.1 (!(((rd_T40 bt274.1 (wrap64 ((bt274.1.length : Int) - 1))).f0) == 5) || (!(((rd_T40 bt274.1 (wrap64 ((bt274.1.length : Int) - 1))).f1) == (a0.size : Int)) || (!((((rd_T40 bt274.1 (wrap64 ((bt274.1.length : Int) - 1))).f2).toList) == ([] : List UInt8)))))) else (none)) else (none))) else (if (bt274.1.length : Int) = 0 then (if bt274.2.1 ≥ 0 then (some (decide (bt274.2.1 ≤ (a0.size : Int)))) else (some false)) else (some false)))) else (some false))) = some r := h
  clear h
  replace H := Option.bind_eq_some_iff.mp H
  obtain ⟨t273, A30, H⟩ := H
  replace H : (if t273 = true then ((scan_Tokens.f k a0).bind fun bt274 => (if bt274.2.2 = 0 then (if (bt274.1.length : Int) < 1 then (sigillaw4_ScanPlaces.j0 k a0 l1 bt274.1 true) else (if 0 ≤ (wrap64 ((bt274.1.length : Int) - 1)) then (if (wrap64 ((bt274.1.length : Int) - 1)) < (bt274.1.length : Int) then (sigillaw4_ScanPlaces.j0 k a0 l1 bt274.1 (!(((rd_T40 bt274.1 (wrap64 ((bt274.1.length : Int) - 1))).f0) == 5) || (!(((rd_T40 bt274.1 (wrap64 ((bt274.1.length : Int) - 1))).f1) == (a0.size : Int)) || (!((((rd_T40 bt274.1 (wrap64 ((bt274.1.length : Int) - 1))).f2).toList) == ([] : List UInt8)))))) else (none)) else (none))) else (if (bt274.1.length : Int) = 0 then (if bt274.2.1 ≥ 0 then (some (decide (bt274.2.1 ≤ (a0.size : Int)))) else (some false)) else (some false)))) else (some false)) = some r := H
  have A3 := Aside0.mk A30
  clear A30
  by_cases c4 : t273 = true
  · subst c4
    have H1 : ((scan_Tokens.f k a0).bind fun bt274 => (if bt274.2.2 = 0 then (if (bt274.1.length : Int) < 1 then (sigillaw4_ScanPlaces.j0 k a0 l1 bt274.1 true) else (if 0 ≤ (wrap64 ((bt274.1.length : Int) - 1)) then (if (wrap64 ((bt274.1.length : Int) - 1)) < (bt274.1.length : Int) then (sigillaw4_ScanPlaces.j0 k a0 l1 bt274.1 (!(((rd_T40 bt274.1 (wrap64 ((bt274.1.length : Int) - 1))).f0) == 5) || (!(((rd_T40 bt274.1 (wrap64 ((bt274.1.length : Int) - 1))).f1) == (a0.size : Int)) || (!((((rd_T40 bt274.1 (wrap64 ((bt274.1.length : Int) - 1))).f2).toList) == ([] : List UInt8)))))) else (none)) else (none))) else (if (bt274.1.length : Int) = 0 then (if bt274.2.1 ≥ 0 then (some (decide (bt274.2.1 ≤ (a0.size : Int)))) else (some false)) else (some false)))) = some r := by rw [if_pos rfl] at H; exact H
    clear H
    have H := H1
    clear H1
    replace H := Option.bind_eq_some_iff.mp H
    obtain ⟨⟨t274, t275, t276⟩, A50, H⟩ := H
    replace H : (if t276 = 0 then (if (t274.length : Int) < 1 then (sigillaw4_ScanPlaces.j0 k a0 l1 t274 true) else (if 0 ≤ (wrap64 ((t274.length : Int) - 1)) then (if (wrap64 ((t274.length : Int) - 1)) < (t274.length : Int) then (sigillaw4_ScanPlaces.j0 k a0 l1 t274 (!(((rd_T40 t274 (wrap64 ((t274.length : Int) - 1))).f0) == 5) || (!(((rd_T40 t274 (wrap64 ((t274.length : Int) - 1))).f1) == (a0.size : Int)) || (!((((rd_T40 t274 (wrap64 ((t274.length : Int) - 1))).f2).toList) == ([] : List UInt8)))))) else (none)) else (none))) else (if (t274.length : Int) = 0 then (if t275 ≥ 0 then (some (decide (t275 ≤ (a0.size : Int)))) else (some false)) else (some false))) = some r := H
    have A5 := Aside0.mk A50
    clear A50
    by_cases c6 : t276 = 0
    · rw [if_pos c6] at H
      have c6b0 : (t276 == 0) = true := beq_iff_eq.mpr c6
      have c6b1 : (t276 != 0) = false := bne_eq_false_iff_eq.mpr c6
      clear c6
      have HC7 := Aside0.mk H
      clear H
      go_enter Tryd.func8, Tryd.ntmps8
      go_upto_region 6 with (first | (go_at_call 19; (with_reducible refine (sigillaw4_head.calls k  true _ A3.out (LaidW.below HL.out (by repeat (first | (with_reducible first | exact HB.out | apply below_alloc | apply pw_below_drewN | apply below_drew1) | exact HB.out | exact Below.refl _ _)))).mono ?_); rintro e w8 ⟨rfl, hb⟩; have n0_ := Aside0.mk (below_step (by repeat (first | (with_reducible first | exact HB.out | apply below_alloc | apply pw_below_drewN | apply below_drew1) | exact HB.out)) hb); clear HB; have HB := n0_; clear n0_; (try clear hb); (try clear hb2); (try clear hk); (try clear hi)) | (go_at_call 21; (with_reducible refine (scan_Tokens.calls k a0 t274 t275 t276 _ A5.out (LaidW.below HL.out (by repeat (first | (with_reducible first | exact HB.out | apply below_alloc | apply pw_below_drewN | apply below_drew1) | exact HB.out | exact Below.refl _ _)))).mono ?_); rintro e w9 ⟨v277, rfl, ho0, hb⟩; have n0_ := Aside0.mk (Kd.R_lower ho0 (below_size (by repeat (first | (with_reducible first | exact HB.out | apply below_alloc | apply pw_below_drewN | apply below_drew1) | exact HB.out)))); have n1_ := Aside0.mk (below_step (by repeat (first | (with_reducible first | exact HB.out | apply below_alloc | apply pw_below_drewN | apply below_drew1) | exact HB.out)) hb); clear HB; have HO278 := n0_; have HB := n1_; clear n0_ n1_; (try clear hb); (try clear hb2); (try clear hk); (try clear hi); (try clear ho0)))
      repeat (go_quiet (first | (go_at_call 19; (with_reducible refine (sigillaw4_head.calls k  true _ A3.out (LaidW.below HL.out (by repeat (first | (with_reducible first | exact HB.out | apply below_alloc | apply pw_below_drewN | apply below_drew1) | exact HB.out | exact Below.refl _ _)))).mono ?_); rintro e w8 ⟨rfl, hb⟩; have n0_ := Aside0.mk (below_step (by repeat (first | (with_reducible first | exact HB.out | apply below_alloc | apply pw_below_drewN | apply below_drew1) | exact HB.out)) hb); clear HB; have HB := n0_; clear n0_; (try clear hb); (try clear hb2); (try clear hk); (try clear hi)) | (go_at_call 21; (with_reducible refine (scan_Tokens.calls k a0 t274 t275 t276 _ A5.out (LaidW.below HL.out (by repeat (first | (with_reducible first | exact HB.out | apply below_alloc | apply pw_below_drewN | apply below_drew1) | exact HB.out | exact Below.refl _ _)))).mono ?_); rintro e w9 ⟨v277, rfl, ho0, hb⟩; have n0_ := Aside0.mk (Kd.R_lower ho0 (below_size (by repeat (first | (with_reducible first | exact HB.out | apply below_alloc | apply pw_below_drewN | apply below_drew1) | exact HB.out)))); have n1_ := Aside0.mk (below_step (by repeat (first | (with_reducible first | exact HB.out | apply below_alloc | apply pw_below_drewN | apply below_drew1) | exact HB.out)) hb); clear HB; have HO278 := n0_; have HB := n1_; clear n0_ n1_; (try clear hb); (try clear hb2); (try clear hk); (try clear hi); (try clear ho0))); go_upto_region 6 with (first | (go_at_call 19; (with_reducible refine (sigillaw4_head.calls k  true _ A3.out (LaidW.below HL.out (by repeat (first | (with_reducible first | exact HB.out | apply below_alloc | apply pw_below_drewN | apply below_drew1) | exact HB.out | exact Below.refl _ _)))).mono ?_); rintro e w8 ⟨rfl, hb⟩; have n0_ := Aside0.mk (below_step (by repeat (first | (with_reducible first | exact HB.out | apply below_alloc | apply pw_below_drewN | apply below_drew1) | exact HB.out)) hb); clear HB; have HB := n0_; clear n0_; (try clear hb); (try clear hb2); (try clear hk); (try clear hi)) | (go_at_call 21; (with_reducible refine (scan_Tokens.calls k a0 t274 t275 t276 _ A5.out (LaidW.below HL.out (by repeat (first | (with_reducible first | exact HB.out | apply below_alloc | apply pw_below_drewN | apply below_drew1) | exact HB.out | exact Below.refl _ _)))).mono ?_); rintro e w9 ⟨v277, rfl, ho0, hb⟩; have n0_ := Aside0.mk (Kd.R_lower ho0 (below_size (by repeat (first | (with_reducible first | exact HB.out | apply below_alloc | apply pw_below_drewN | apply below_drew1) | exact HB.out)))); have n1_ := Aside0.mk (below_step (by repeat (first | (with_reducible first | exact HB.out | apply below_alloc | apply pw_below_drewN | apply below_drew1) | exact HB.out)) hb); clear HB; have HO278 := n0_; have HB := n1_; clear n0_ n1_; (try clear hb); (try clear hb2); (try clear hk); (try clear hi); (try clear ho0))))
      (try simp only [Act.put, List.setIfInBounds_toArray, List.set_cons_zero, List.set_cons_succ])
      go_cut [53] (fun v53 wc => ∃ (kq : Nat) (x53_6 : Bool), v53 = .bool x53_6 ∧ Aside0 (sigillaw4_ScanPlaces.j0 kq a0 l1 t274 x53_6 = some r) ∧ Aside0 (kq ≤ k) ∧ Aside0 (Kd.R k40 40 wc w.heap.size (fun _ => True) v277 t274) ∧ Aside0 (Below w.heap.size w wc))
      case first =>
        have H := HC7.out
        clear HC7
        by_cases c10 : (t274.length : Int) < 1
        · rw [if_pos c10] at H
          have c10b0 : decide ((t274.length : Int) < 1) = true := decide_eq_true c10
          have c10b1 : decide (t274.length < 1) = true := decide_eq_true (by omega)
          clear c10
          (first | rw [c10b0] | (simp only [i64_w, i32_w]; rw [c10b0]) | skip)
          have H' := Aside0.mk H
          clear H
          obtain ⟨Ao11, co11, eo11⟩ := Kd.R_slice HO278.out
          subst eo11
          go_wp2
          repeat (go_quiet (fail); try go_wp2)
          go_meet
          case rel => exact ⟨_, (true), (by first | rfl | (simp; done) | (simp [*]; done) | (simp; generalize List.isEmpty _ = p_; generalize (_ == wrap64 _) = q_; cases p_ <;> cases q_ <;> rfl)), H', ⟨by first | omega | exact Nat.le_refl _⟩, ⟨by (with_reducible repeat (first | apply Kd.R_alloc | apply Kd.R_drewN | apply Kd.R_drew)); exact HO278.out⟩, ⟨by repeat (first | (with_reducible first | exact HB.out | apply below_alloc | apply pw_below_drewN | apply below_drew1) | exact HB.out)⟩⟩
        · rw [if_neg c10] at H
          have c10b0 : decide ((t274.length : Int) < 1) = false := decide_eq_false c10
          have c10b1 : decide (t274.length < 1) = false := decide_eq_false (by omega)
          clear c10
          (first | rw [c10b0] | (simp only [i64_w, i32_w]; rw [c10b0]) | skip)
          obtain ⟨ji12, hji12⟩ : ∃ j_ : Int, (wrap64 ((t274.length : Int) - 1)) = j_ := ⟨_, rfl⟩
          replace H : (if 0 ≤ (ji12) then (if (ji12) < (t274.length : Int) then (sigillaw4_ScanPlaces.j0 k a0 l1 t274 (!(((rd_T40 t274 (ji12)).f0) == 5) || (!(((rd_T40 t274 (ji12)).f1) == (a0.size : Int)) || (!((((rd_T40 t274 (ji12)).f2).toList) == ([] : List UInt8)))))) else (none)) else (none)) = some r := by first | (rw [hji12] at H; exact H) | (simp only [hji12] at H ⊢; exact H)
          have hji12w : (IntKind.i64.wrap ((t274.length : Int) - 1)) = ji12 := (i64_w _).trans hji12
          by_cases c13 : 0 ≤ (ji12)
          · rw [if_pos c13] at H
            have c13b0 : decide (0 ≤ (ji12)) = true := decide_eq_true c13
            clear c13
            by_cases c14 : (ji12) < (t274.length : Int)
            · rw [if_pos c14] at H
              have c14b0 : decide ((ji12) < (t274.length : Int)) = true := decide_eq_true c14
              clear c14
              have H' := Aside0.mk H
              clear H
              obtain ⟨Ao15, co15, eo15⟩ := Kd.R_slice HO278.out
              subst eo15
              have p279 : 0 ≤ ((ji12) : Int) := of_decide_eq_true (by first | (with_reducible assumption) | assumption)
              have q279 : (ji12) < (t274.length : Int) := of_decide_eq_true (by first | (with_reducible assumption) | assumption)
              obtain ⟨ad279, e279, hx279_0, hx279_1, hx279_2⟩ := at_T40 (Kd.R_reads' HO278.out).2.2 (ji12) p279 q279
              cases e279
              replace p279 := eq_true p279
              replace q279 := eq_true q279
              go_wp2
              repeat (go_quiet (fail); try go_wp2)
              go_meet
              case rel => exact ⟨_, ((!(((rd_T40 t274 (ji12)).f0) == 5) || (!(((rd_T40 t274 (ji12)).f1) == (a0.size : Int)) || (!((((rd_T40 t274 (ji12)).f2).toList) == ([] : List UInt8)))))), (by first | rfl | (simp; done) | (simp only [← hji12] <;> (first | rfl | simp)) | (simp [*]; done)), H', ⟨by first | omega | exact Nat.le_refl _⟩, ⟨by (with_reducible repeat (first | apply Kd.R_alloc | apply Kd.R_drewN | apply Kd.R_drew)); exact HO278.out⟩, ⟨by repeat (first | (with_reducible first | exact HB.out | apply below_alloc | apply pw_below_drewN | apply below_drew1) | exact HB.out)⟩⟩
            · rw [if_neg c14] at H
              exact absurd H (by simp)
          · rw [if_neg c13] at H
            exact absurd H (by simp)
      case rest =>
        clear HC7
        try clear c1
        try clear p2
        try clear q2
        try clear hx2
        try clear c4
        try clear c6
        try clear c6b0
        try clear c6b1
        try clear p6
        try clear c8
        try clear c10
        try clear c10b0
        try clear c10b1
        try clear c13
        try clear c13b0
        try clear c14
        try clear c14b0
        try clear hx279_0
        try clear hx279_1
        try clear hx279_2
        try clear p279
        try clear q279
        obtain ⟨kq, x53_6, rfl, HA, HJ6, HO_5, HB⟩ := hcut
        cases kq with
        | zero => exact absurd HA.out (by simp [sigillaw4_ScanPlaces.j0])
        | succ kj6 =>
          have H := HA.out
          clear HA
          simp only [sigillaw4_ScanPlaces.j0] at H
          by_cases c16 : x53_6 = true
          · subst c16
            have H1 : (some false) = some r := by rw [if_pos rfl] at H; exact H
            clear H
            have H := H1
            clear H1
            obtain rfl := Option.some.inj H
            go_wp2
            repeat (go_quiet (fail); try go_wp2)
            go_ret
            exact ⟨by first | rfl | (simp [errW_none, errW_some] <;> rfl) | (simp [*, errW_none, errW_some] <;> rfl), by repeat (first | (with_reducible first | exact HB.out | apply below_alloc | apply pw_below_drewN | apply below_drew1) | exact HB.out)⟩
          · replace c16 := Bool.eq_false_iff.mpr c16
            subst c16
            have H1 : (sigillaw4_ScanPlaces.l0 kj6 a0 l1 t274 0 ([] : List Int) 0) = some r := by rw [if_neg (show ¬ (false = true) by decide)] at H; exact H
            clear H
            have H := H1
            clear H1
            have H' := Aside0.mk H
            clear H
            go_wp2
            repeat (go_quiet (fail); try go_wp2)
            go_loopg [8, 9, 10] kj6 (fun kq v8 v9 v10 w' => ∃ (x8_2 : Int) (x9_2 : List Int) (x10_2 : Int), v8 = .int .i64 x8_2 ∧ v10 = .int .i64 x10_2 ∧ Aside0 (sigillaw4_ScanPlaces.l0 kq a0 l1 t274 x8_2 x9_2 x10_2 = some r) ∧ Aside0 (kq ≤ kj6) ∧ Aside0 (Kd.R k40 40 w' w.heap.size (fun _ => True) v277 t274) ∧ Aside0 (Kd.R (Kd.int .u8) 5 w' w.heap.size (fun _ => True) v9 x9_2) ∧ Aside0 (Below w.heap.size w w'))
            case atStart => exact ⟨(0), (([] : List Int)), (0), (by first | rfl | (simp; done) | (simp [*]; done) | (simp; generalize List.isEmpty _ = p_; generalize (_ == wrap64 _) = q_; cases p_ <;> cases q_ <;> rfl)), (by first | rfl | (simp; done) | (simp [*]; done) | (simp; generalize List.isEmpty _ = p_; generalize (_ == wrap64 _) = q_; cases p_ <;> cases q_ <;> rfl)), H', ⟨Nat.le_refl _⟩, ⟨by (with_reducible repeat (first | apply Kd.R_alloc | apply Kd.R_drewN | apply Kd.R_drew)); exact HO_5.out⟩, ⟨by first | exact Kd.R_nil _ _ _ _ _ | exact Kd.N_nil _ _ _ _ _ | exact Kd.V_nil _ _ _ _ _ | exact Kd.Q_nil _ _ _ _ _ | exact Kd.S_nil _ _ _ _ _⟩, ⟨by repeat (first | (with_reducible first | exact HB.out | apply below_alloc | apply pw_below_drewN | apply below_drew1) | exact HB.out)⟩⟩
            case round =>
              clear H'
              try clear c1
              try clear p2
              try clear q2
              try clear hx2
              try clear c4
              try clear c6
              try clear c6b0
              try clear c6b1
              try clear p6
              try clear c8
              try clear c10
              try clear c10b0
              try clear c10b1
              try clear c13
              try clear c13b0
              try clear c14
              try clear c14b0
              try clear c16
              try clear hx279_0
              try clear hx279_1
              try clear hx279_2
              try clear p2
              try clear p279
              try clear p6
              try clear q2
              try clear q279
              obtain ⟨x8_2, x9_2, x10_2, rfl, rfl, HA, HK2, HO_5, HO_9, HB⟩ := hrel
              cases gk with
              | zero => exact absurd HA.out (by simp [sigillaw4_ScanPlaces.l0])
              | succ k2 =>
                have H := HA.out
                clear HA
                simp only [sigillaw4_ScanPlaces.l0] at H
                by_cases c17 : x10_2 < (t274.length : Int)
                · rw [if_pos c17] at H
                  have c17b0 : decide (x10_2 < (t274.length : Int)) = true := decide_eq_true c17
                  clear c17
                  by_cases c18 : 0 ≤ x10_2
                  · rw [if_pos c18] at H
                    have c18b0 : decide (0 ≤ x10_2) = true := decide_eq_true c18
                    clear c18
                    have HC19 := Aside0.mk H
                    clear H
                    obtain ⟨Ao20, co20, eo20⟩ := Kd.R_slice HO_5.out
                    subst eo20
                    have p280 : 0 ≤ (x10_2 : Int) := of_decide_eq_true (by first | (with_reducible assumption) | assumption)
                    have q280 : x10_2 < (t274.length : Int) := of_decide_eq_true (by first | (with_reducible assumption) | assumption)
                    obtain ⟨ad280, e280, hx280_0, hx280_1, hx280_2⟩ := at_T40 (Kd.R_reads' HO_5.out).2.2 x10_2 p280 q280
                    cases e280
                    replace p280 := eq_true p280
                    replace q280 := eq_true q280
                    go_upto_region 14 with (first | ((with_reducible refine gate_dst (N := 11) rfl ?_); (try (refine gate_guard (by rfl) ?_; dsimp only)); refine box_event ?hg (N := 11) ?hd (cs := #[.int .i64 0, .int .i64 0, .string (⟨#[]⟩ : ByteArray)]) (t := 40) ?hr ?_; (case hd => rfl); (case hg => rfl); (case hr => first | (go_simp; done) | (go_simp; rfl)); intro gb281 hg w21 hbox hb; have n0_ := Aside0.mk (Kd.R_below (Kd.R_elderB (by (with_reducible repeat (first | apply Kd.R_alloc | apply Kd.R_drewN | apply Kd.R_drew)); exact HO_5.out) gb281 (Nat.le_of_eq hg.symm)) hb); have n1_ := Aside0.mk (Kd.R_below (by (with_reducible repeat (first | apply Kd.R_alloc | apply Kd.R_drewN | apply Kd.R_drew)); exact HO_9.out) hb); have n2_ := Aside0.mk (below_step (by repeat (first | (with_reducible first | exact HB.out | apply below_alloc | apply pw_below_drewN | apply below_drew1) | exact HB.out)) hb); have n3_ := Aside0.mk (hbox); have n4_ := Aside0.mk ((by rw [hg]; exact (below_size (by repeat (first | (with_reducible first | exact HB.out | apply below_alloc | apply pw_below_drewN | apply below_drew1) | exact HB.out))) : w.heap.size ≤ gb281)); have n5_ := Aside0.mk ((by rw [hg]; exact (below_size (by repeat (first | (with_reducible first | exact HB.out | apply below_alloc | apply pw_below_drewN | apply below_drew1) | exact HB.out))) : w.heap.size ≤ gb281)); clear HO_5; clear HO_9; clear HB; have HO_5 := n0_; have HO_9 := n1_; have HB := n2_; have BK281 := n3_; have GW281 := n4_; have GE281 := n5_; clear n0_ n1_ n2_ n3_ n4_ n5_; clear hb hbox hg; have hcz22_0 : w21.cell? ⟨gb281, 0, none⟩ = some (.int .i64 0) := (blk_cell BK281.out 0).trans rfl; have hcz22_1 : w21.cell? ⟨gb281, 1, none⟩ = some (.int .i64 0) := (blk_cell BK281.out 1).trans rfl; have hcz22_2 : w21.cell? ⟨gb281, 2, none⟩ = some (.string (⟨#[]⟩ : ByteArray)) := (blk_cell BK281.out 2).trans rfl; have hfz22_0 := blk_frozen BK281.out 0; have hfz22_1 := blk_frozen BK281.out 1; have hfz22_2 := blk_frozen BK281.out 2))
                    repeat (go_quiet (first | ((with_reducible refine gate_dst (N := 11) rfl ?_); (try (refine gate_guard (by rfl) ?_; dsimp only)); refine box_event ?hg (N := 11) ?hd (cs := #[.int .i64 0, .int .i64 0, .string (⟨#[]⟩ : ByteArray)]) (t := 40) ?hr ?_; (case hd => rfl); (case hg => rfl); (case hr => first | (go_simp; done) | (go_simp; rfl)); intro gb281 hg w21 hbox hb; have n0_ := Aside0.mk (Kd.R_below (Kd.R_elderB (by (with_reducible repeat (first | apply Kd.R_alloc | apply Kd.R_drewN | apply Kd.R_drew)); exact HO_5.out) gb281 (Nat.le_of_eq hg.symm)) hb); have n1_ := Aside0.mk (Kd.R_below (by (with_reducible repeat (first | apply Kd.R_alloc | apply Kd.R_drewN | apply Kd.R_drew)); exact HO_9.out) hb); have n2_ := Aside0.mk (below_step (by repeat (first | (with_reducible first | exact HB.out | apply below_alloc | apply pw_below_drewN | apply below_drew1) | exact HB.out)) hb); have n3_ := Aside0.mk (hbox); have n4_ := Aside0.mk ((by rw [hg]; exact (below_size (by repeat (first | (with_reducible first | exact HB.out | apply below_alloc | apply pw_below_drewN | apply below_drew1) | exact HB.out))) : w.heap.size ≤ gb281)); have n5_ := Aside0.mk ((by rw [hg]; exact (below_size (by repeat (first | (with_reducible first | exact HB.out | apply below_alloc | apply pw_below_drewN | apply below_drew1) | exact HB.out))) : w.heap.size ≤ gb281)); clear HO_5; clear HO_9; clear HB; have HO_5 := n0_; have HO_9 := n1_; have HB := n2_; have BK281 := n3_; have GW281 := n4_; have GE281 := n5_; clear n0_ n1_ n2_ n3_ n4_ n5_; clear hb hbox hg; have hcz22_0 : w21.cell? ⟨gb281, 0, none⟩ = some (.int .i64 0) := (blk_cell BK281.out 0).trans rfl; have hcz22_1 : w21.cell? ⟨gb281, 1, none⟩ = some (.int .i64 0) := (blk_cell BK281.out 1).trans rfl; have hcz22_2 : w21.cell? ⟨gb281, 2, none⟩ = some (.string (⟨#[]⟩ : ByteArray)) := (blk_cell BK281.out 2).trans rfl; have hfz22_0 := blk_frozen BK281.out 0; have hfz22_1 := blk_frozen BK281.out 1; have hfz22_2 := blk_frozen BK281.out 2)); go_upto_region 14 with (first | ((with_reducible refine gate_dst (N := 11) rfl ?_); (try (refine gate_guard (by rfl) ?_; dsimp only)); refine box_event ?hg (N := 11) ?hd (cs := #[.int .i64 0, .int .i64 0, .string (⟨#[]⟩ : ByteArray)]) (t := 40) ?hr ?_; (case hd => rfl); (case hg => rfl); (case hr => first | (go_simp; done) | (go_simp; rfl)); intro gb281 hg w21 hbox hb; have n0_ := Aside0.mk (Kd.R_below (Kd.R_elderB (by (with_reducible repeat (first | apply Kd.R_alloc | apply Kd.R_drewN | apply Kd.R_drew)); exact HO_5.out) gb281 (Nat.le_of_eq hg.symm)) hb); have n1_ := Aside0.mk (Kd.R_below (by (with_reducible repeat (first | apply Kd.R_alloc | apply Kd.R_drewN | apply Kd.R_drew)); exact HO_9.out) hb); have n2_ := Aside0.mk (below_step (by repeat (first | (with_reducible first | exact HB.out | apply below_alloc | apply pw_below_drewN | apply below_drew1) | exact HB.out)) hb); have n3_ := Aside0.mk (hbox); have n4_ := Aside0.mk ((by rw [hg]; exact (below_size (by repeat (first | (with_reducible first | exact HB.out | apply below_alloc | apply pw_below_drewN | apply below_drew1) | exact HB.out))) : w.heap.size ≤ gb281)); have n5_ := Aside0.mk ((by rw [hg]; exact (below_size (by repeat (first | (with_reducible first | exact HB.out | apply below_alloc | apply pw_below_drewN | apply below_drew1) | exact HB.out))) : w.heap.size ≤ gb281)); clear HO_5; clear HO_9; clear HB; have HO_5 := n0_; have HO_9 := n1_; have HB := n2_; have BK281 := n3_; have GW281 := n4_; have GE281 := n5_; clear n0_ n1_ n2_ n3_ n4_ n5_; clear hb hbox hg; have hcz22_0 : w21.cell? ⟨gb281, 0, none⟩ = some (.int .i64 0) := (blk_cell BK281.out 0).trans rfl; have hcz22_1 : w21.cell? ⟨gb281, 1, none⟩ = some (.int .i64 0) := (blk_cell BK281.out 1).trans rfl; have hcz22_2 : w21.cell? ⟨gb281, 2, none⟩ = some (.string (⟨#[]⟩ : ByteArray)) := (blk_cell BK281.out 2).trans rfl; have hfz22_0 := blk_frozen BK281.out 0; have hfz22_1 := blk_frozen BK281.out 1; have hfz22_2 := blk_frozen BK281.out 2)))
                    (try simp only [Act.put, List.setIfInBounds_toArray, List.set_cons_zero, List.set_cons_succ])
                    go_cut [114] (fun v114 wc => ∃ (kq : Nat) (x114_18 : Bool), v114 = .bool x114_18 ∧ Aside0 (sigillaw4_ScanPlaces.j2 kq a0 l1 t274 x9_2 x10_2 x114_18 ((rd_T40 t274 x10_2).f0) ((rd_T40 t274 x10_2).f1) ((rd_T40 t274 x10_2).f2) = some r) ∧ Aside0 (kq ≤ k2) ∧ Aside0 (Kd.R k40 40 wc w.heap.size (fun k_ => k_ ≠ gb281) (.slice (some ad280) t274.length co20) t274) ∧ Aside0 (Kd.R (Kd.int .u8) 5 wc w.heap.size (fun _ => True) u9 x9_2) ∧ Aside0 (wc.heap[gb281]? = some (.cells #[.int .i64 ((rd_T40 t274 x10_2).f0), .int .i64 ((rd_T40 t274 x10_2).f1), .string ((rd_T40 t274 x10_2).f2)] 40 (0, 0))) ∧ Aside0 (Below w.heap.size w wc))
                    case first =>
                      have H := HC19.out
                      clear HC19
                      by_cases c23 : ((rd_T40 t274 x10_2).f1) < x8_2
                      · rw [if_pos c23] at H
                        have c23b0 : decide (((rd_T40 t274 x10_2).f1) < x8_2) = true := decide_eq_true c23
                        clear c23
                        (first | rw [c23b0] | (simp only [i64_w, i32_w]; rw [c23b0]) | skip)
                        have H' := Aside0.mk H
                        clear H
                        have hcz24_0 : w21.cell? ⟨gb281, 0, none⟩ = some (.int .i64 0) := (blk_cell BK281.out 0).trans rfl
                        have hcz24_1 : w21.cell? ⟨gb281, 1, none⟩ = some (.int .i64 0) := (blk_cell BK281.out 1).trans rfl
                        have hcz24_2 : w21.cell? ⟨gb281, 2, none⟩ = some (.string (⟨#[]⟩ : ByteArray)) := (blk_cell BK281.out 2).trans rfl
                        have hfz24_0 := blk_frozen BK281.out 0
                        have hfz24_1 := blk_frozen BK281.out 1
                        have hfz24_2 := blk_frozen BK281.out 2
                        go_wp2
                        repeat (go_quiet (fail); try go_wp2)
                        go_meet
                        case rel => exact ⟨_, (true), (by first | rfl | (simp; done) | (simp [*]; done) | (simp; generalize List.isEmpty _ = p_; generalize (_ == wrap64 _) = q_; cases p_ <;> cases q_ <;> rfl)), H', ⟨by have := HJ6.out; have := HK2.out; first | omega | exact Nat.le_refl _⟩, ⟨by (with_reducible repeat (first | apply Kd.R_alloc | apply Kd.R_drewN | apply Kd.R_drew)); exact Kd.R_mono (Kd.R_far (p := ⟨gb281, 2, none⟩) (Kd.R_far (p := ⟨gb281, 1, none⟩) (Kd.R_far (p := ⟨gb281, 0, none⟩) (Kd.R_mono HO_5.out (fun k_ hk => (⟨hk, hk.2⟩ : _ ∧ k_ ≠ gb281))) (fun _ hk => hk.2) (.int .i64 ((rd_T40 t274 x10_2).f0))) (fun _ hk => hk.2) (.int .i64 ((rd_T40 t274 x10_2).f1))) (fun _ hk => hk.2) (.string ((rd_T40 t274 x10_2).f2))) (fun _ hk => hk.1.2)⟩, ⟨by (with_reducible repeat (first | apply Kd.R_alloc | apply Kd.R_drewN | apply Kd.R_drew)); exact Kd.R_mono (Kd.R_far (p := ⟨gb281, 2, none⟩) (Kd.R_far (p := ⟨gb281, 1, none⟩) (Kd.R_far (p := ⟨gb281, 0, none⟩) (Kd.R_types HO_9.out BK281.out (by decide)) (fun _ hk => hk.2) (.int .i64 ((rd_T40 t274 x10_2).f0))) (fun _ hk => hk.2) (.int .i64 ((rd_T40 t274 x10_2).f1))) (fun _ hk => hk.2) (.string ((rd_T40 t274 x10_2).f2))) (fun _ hk => trivial)⟩, ⟨by (with_reducible repeat (first | refine blk_drewN ?_ _ | refine blk_drew ?_ | refine blk_alloc ?_ _)); refine blk_put (cs := #[.int .i64 ((rd_T40 t274 x10_2).f0), .int .i64 ((rd_T40 t274 x10_2).f1), .string (⟨#[]⟩ : ByteArray)]) ?_ 2 _ rfl; (with_reducible repeat (first | refine blk_drewN ?_ _ | refine blk_drew ?_ | refine blk_alloc ?_ _)); refine blk_put (cs := #[.int .i64 ((rd_T40 t274 x10_2).f0), .int .i64 0, .string (⟨#[]⟩ : ByteArray)]) ?_ 1 _ rfl; (with_reducible repeat (first | refine blk_drewN ?_ _ | refine blk_drew ?_ | refine blk_alloc ?_ _)); refine blk_put (cs := #[.int .i64 0, .int .i64 0, .string (⟨#[]⟩ : ByteArray)]) ?_ 0 _ rfl; (with_reducible repeat (first | refine blk_drewN ?_ _ | refine blk_drew ?_ | refine blk_alloc ?_ _)); exact BK281.out⟩, ⟨by repeat (first | (with_reducible first | exact HB.out | apply below_alloc | apply pw_below_drewN | apply below_drew1 | refine below_set ?_ GE281.out) | exact HB.out)⟩⟩
                      · rw [if_neg c23] at H
                        have c23b0 : decide (((rd_T40 t274 x10_2).f1) < x8_2) = false := decide_eq_false c23
                        clear c23
                        (first | rw [c23b0] | (simp only [i64_w, i32_w]; rw [c23b0]) | skip)
                        by_cases c25 : ((rd_T40 t274 x10_2).f1) > (wrap64 ((a0.size : Int) - (((rd_T40 t274 x10_2).f2).size : Int)))
                        · rw [if_pos c25] at H
                          have c25b0 : decide ((wrap64 ((a0.size : Int) - (((rd_T40 t274 x10_2).f2).size : Int))) < ((rd_T40 t274 x10_2).f1)) = true := decide_eq_true c25
                          clear c25
                          have H' := Aside0.mk H
                          clear H
                          have hcz26_0 : w21.cell? ⟨gb281, 0, none⟩ = some (.int .i64 0) := (blk_cell BK281.out 0).trans rfl
                          have hcz26_1 : w21.cell? ⟨gb281, 1, none⟩ = some (.int .i64 0) := (blk_cell BK281.out 1).trans rfl
                          have hcz26_2 : w21.cell? ⟨gb281, 2, none⟩ = some (.string (⟨#[]⟩ : ByteArray)) := (blk_cell BK281.out 2).trans rfl
                          have hfz26_0 := blk_frozen BK281.out 0
                          have hfz26_1 := blk_frozen BK281.out 1
                          have hfz26_2 := blk_frozen BK281.out 2
                          go_wp2
                          repeat (go_quiet (fail); try go_wp2)
                          go_meet
                          case rel => exact ⟨_, (true), (by first | rfl | (simp; done) | (simp [*]; done) | (simp; generalize List.isEmpty _ = p_; generalize (_ == wrap64 _) = q_; cases p_ <;> cases q_ <;> rfl)), H', ⟨by have := HJ6.out; have := HK2.out; first | omega | exact Nat.le_refl _⟩, ⟨by (with_reducible repeat (first | apply Kd.R_alloc | apply Kd.R_drewN | apply Kd.R_drew)); exact Kd.R_mono (Kd.R_far (p := ⟨gb281, 2, none⟩) (Kd.R_far (p := ⟨gb281, 1, none⟩) (Kd.R_far (p := ⟨gb281, 0, none⟩) (Kd.R_mono HO_5.out (fun k_ hk => (⟨hk, hk.2⟩ : _ ∧ k_ ≠ gb281))) (fun _ hk => hk.2) (.int .i64 ((rd_T40 t274 x10_2).f0))) (fun _ hk => hk.2) (.int .i64 ((rd_T40 t274 x10_2).f1))) (fun _ hk => hk.2) (.string ((rd_T40 t274 x10_2).f2))) (fun _ hk => hk.1.2)⟩, ⟨by (with_reducible repeat (first | apply Kd.R_alloc | apply Kd.R_drewN | apply Kd.R_drew)); exact Kd.R_mono (Kd.R_far (p := ⟨gb281, 2, none⟩) (Kd.R_far (p := ⟨gb281, 1, none⟩) (Kd.R_far (p := ⟨gb281, 0, none⟩) (Kd.R_types HO_9.out BK281.out (by decide)) (fun _ hk => hk.2) (.int .i64 ((rd_T40 t274 x10_2).f0))) (fun _ hk => hk.2) (.int .i64 ((rd_T40 t274 x10_2).f1))) (fun _ hk => hk.2) (.string ((rd_T40 t274 x10_2).f2))) (fun _ hk => trivial)⟩, ⟨by (with_reducible repeat (first | refine blk_drewN ?_ _ | refine blk_drew ?_ | refine blk_alloc ?_ _)); refine blk_put (cs := #[.int .i64 ((rd_T40 t274 x10_2).f0), .int .i64 ((rd_T40 t274 x10_2).f1), .string (⟨#[]⟩ : ByteArray)]) ?_ 2 _ rfl; (with_reducible repeat (first | refine blk_drewN ?_ _ | refine blk_drew ?_ | refine blk_alloc ?_ _)); refine blk_put (cs := #[.int .i64 ((rd_T40 t274 x10_2).f0), .int .i64 0, .string (⟨#[]⟩ : ByteArray)]) ?_ 1 _ rfl; (with_reducible repeat (first | refine blk_drewN ?_ _ | refine blk_drew ?_ | refine blk_alloc ?_ _)); refine blk_put (cs := #[.int .i64 0, .int .i64 0, .string (⟨#[]⟩ : ByteArray)]) ?_ 0 _ rfl; (with_reducible repeat (first | refine blk_drewN ?_ _ | refine blk_drew ?_ | refine blk_alloc ?_ _)); exact BK281.out⟩, ⟨by repeat (first | (with_reducible first | exact HB.out | apply below_alloc | apply pw_below_drewN | apply below_drew1 | refine below_set ?_ GE281.out) | exact HB.out)⟩⟩
                        · rw [if_neg c25] at H
                          have c25b0 : decide ((wrap64 ((a0.size : Int) - (((rd_T40 t274 x10_2).f2).size : Int))) < ((rd_T40 t274 x10_2).f1)) = false := decide_eq_false c25
                          clear c25
                          by_cases c27 : 0 ≤ ((rd_T40 t274 x10_2).f1)
                          · rw [if_pos c27] at H
                            have c27b0 := eq_true c27
                            have c27b1 : decide (0 ≤ ((rd_T40 t274 x10_2).f1)) = true := decide_eq_true c27
                            clear c27
                            by_cases c28 : ((rd_T40 t274 x10_2).f1) ≤ (wrap64 (((rd_T40 t274 x10_2).f1) + (((rd_T40 t274 x10_2).f2).size : Int)))
                            · rw [if_pos c28] at H
                              have c28b0 := eq_true c28
                              have c28b1 : decide (((rd_T40 t274 x10_2).f1) ≤ (wrap64 (((rd_T40 t274 x10_2).f1) + (((rd_T40 t274 x10_2).f2).size : Int)))) = true := decide_eq_true c28
                              by_cases c29 : (wrap64 (((rd_T40 t274 x10_2).f1) + (((rd_T40 t274 x10_2).f2).size : Int))) ≤ (a0.size : Int)
                              · rw [if_pos c29] at H
                                have c29b0 := eq_true c29
                                have c29b1 : decide ((wrap64 (((rd_T40 t274 x10_2).f1) + (((rd_T40 t274 x10_2).f2).size : Int))) ≤ (a0.size : Int)) = true := decide_eq_true c29
                                by_cases c30 : (a0.extract (((rd_T40 t274 x10_2).f1) : Int).toNat ((wrap64 (((rd_T40 t274 x10_2).f1) + (((rd_T40 t274 x10_2).f2).size : Int))) : Int).toNat).toList = ((rd_T40 t274 x10_2).f2).toList
                                · rw [if_pos c30] at H
                                  have c30b0 : ((a0.extract (((rd_T40 t274 x10_2).f1) : Int).toNat ((wrap64 (((rd_T40 t274 x10_2).f1) + (((rd_T40 t274 x10_2).f2).size : Int))) : Int).toNat).toList == ((rd_T40 t274 x10_2).f2).toList) = true := beq_iff_eq.mpr c30
                                  have c30b1 : ((a0.extract (((rd_T40 t274 x10_2).f1) : Int).toNat ((wrap64 (((rd_T40 t274 x10_2).f1) + (((rd_T40 t274 x10_2).f2).size : Int))) : Int).toNat).toList != ((rd_T40 t274 x10_2).f2).toList) = false := bne_eq_false_iff_eq.mpr c30
                                  clear c30
                                  by_cases c31 : ((rd_T40 t274 x10_2).f0) < 1
                                  · rw [if_pos c31] at H
                                    have c31b0 : decide (((rd_T40 t274 x10_2).f0) < 1) = true := decide_eq_true c31
                                    clear c31
                                    have H' := Aside0.mk H
                                    clear H
                                    have hcz32_0 : w21.cell? ⟨gb281, 0, none⟩ = some (.int .i64 0) := (blk_cell BK281.out 0).trans rfl
                                    have hcz32_1 : w21.cell? ⟨gb281, 1, none⟩ = some (.int .i64 0) := (blk_cell BK281.out 1).trans rfl
                                    have hcz32_2 : w21.cell? ⟨gb281, 2, none⟩ = some (.string (⟨#[]⟩ : ByteArray)) := (blk_cell BK281.out 2).trans rfl
                                    have hfz32_0 := blk_frozen BK281.out 0
                                    have hfz32_1 := blk_frozen BK281.out 1
                                    have hfz32_2 := blk_frozen BK281.out 2
                                    go_wp2
                                    repeat (go_quiet (fail); try go_wp2)
                                    go_meet
                                    case rel => exact ⟨_, (true), (by first | rfl | (simp; done) | (simp [*]; done) | (simp; generalize List.isEmpty _ = p_; generalize (_ == wrap64 _) = q_; cases p_ <;> cases q_ <;> rfl)), H', ⟨by have := HJ6.out; have := HK2.out; first | omega | exact Nat.le_refl _⟩, ⟨by (with_reducible repeat (first | apply Kd.R_alloc | apply Kd.R_drewN | apply Kd.R_drew)); exact Kd.R_mono (Kd.R_far (p := ⟨gb281, 2, none⟩) (Kd.R_far (p := ⟨gb281, 1, none⟩) (Kd.R_far (p := ⟨gb281, 0, none⟩) (Kd.R_mono HO_5.out (fun k_ hk => (⟨hk, hk.2⟩ : _ ∧ k_ ≠ gb281))) (fun _ hk => hk.2) (.int .i64 ((rd_T40 t274 x10_2).f0))) (fun _ hk => hk.2) (.int .i64 ((rd_T40 t274 x10_2).f1))) (fun _ hk => hk.2) (.string ((rd_T40 t274 x10_2).f2))) (fun _ hk => hk.1.2)⟩, ⟨by (with_reducible repeat (first | apply Kd.R_alloc | apply Kd.R_drewN | apply Kd.R_drew)); exact Kd.R_mono (Kd.R_far (p := ⟨gb281, 2, none⟩) (Kd.R_far (p := ⟨gb281, 1, none⟩) (Kd.R_far (p := ⟨gb281, 0, none⟩) (Kd.R_types HO_9.out BK281.out (by decide)) (fun _ hk => hk.2) (.int .i64 ((rd_T40 t274 x10_2).f0))) (fun _ hk => hk.2) (.int .i64 ((rd_T40 t274 x10_2).f1))) (fun _ hk => hk.2) (.string ((rd_T40 t274 x10_2).f2))) (fun _ hk => trivial)⟩, ⟨by (with_reducible repeat (first | refine blk_drewN ?_ _ | refine blk_drew ?_ | refine blk_alloc ?_ _)); refine blk_put (cs := #[.int .i64 ((rd_T40 t274 x10_2).f0), .int .i64 ((rd_T40 t274 x10_2).f1), .string (⟨#[]⟩ : ByteArray)]) ?_ 2 _ rfl; (with_reducible repeat (first | refine blk_drewN ?_ _ | refine blk_drew ?_ | refine blk_alloc ?_ _)); refine blk_put (cs := #[.int .i64 ((rd_T40 t274 x10_2).f0), .int .i64 0, .string (⟨#[]⟩ : ByteArray)]) ?_ 1 _ rfl; (with_reducible repeat (first | refine blk_drewN ?_ _ | refine blk_drew ?_ | refine blk_alloc ?_ _)); refine blk_put (cs := #[.int .i64 0, .int .i64 0, .string (⟨#[]⟩ : ByteArray)]) ?_ 0 _ rfl; (with_reducible repeat (first | refine blk_drewN ?_ _ | refine blk_drew ?_ | refine blk_alloc ?_ _)); exact BK281.out⟩, ⟨by repeat (first | (with_reducible first | exact HB.out | apply below_alloc | apply pw_below_drewN | apply below_drew1 | refine below_set ?_ GE281.out) | exact HB.out)⟩⟩
                                  · rw [if_neg c31] at H
                                    have c31b0 : decide (((rd_T40 t274 x10_2).f0) < 1) = false := decide_eq_false c31
                                    clear c31
                                    by_cases c33 : ((rd_T40 t274 x10_2).f0) > 5
                                    · rw [if_pos c33] at H
                                      have c33b0 : decide (5 < ((rd_T40 t274 x10_2).f0)) = true := decide_eq_true c33
                                      clear c33
                                      have H' := Aside0.mk H
                                      clear H
                                      have hcz34_0 : w21.cell? ⟨gb281, 0, none⟩ = some (.int .i64 0) := (blk_cell BK281.out 0).trans rfl
                                      have hcz34_1 : w21.cell? ⟨gb281, 1, none⟩ = some (.int .i64 0) := (blk_cell BK281.out 1).trans rfl
                                      have hcz34_2 : w21.cell? ⟨gb281, 2, none⟩ = some (.string (⟨#[]⟩ : ByteArray)) := (blk_cell BK281.out 2).trans rfl
                                      have hfz34_0 := blk_frozen BK281.out 0
                                      have hfz34_1 := blk_frozen BK281.out 1
                                      have hfz34_2 := blk_frozen BK281.out 2
                                      go_wp2
                                      repeat (go_quiet (fail); try go_wp2)
                                      go_meet
                                      case rel => exact ⟨_, (true), (by first | rfl | (simp; done) | (simp [*]; done) | (simp; generalize List.isEmpty _ = p_; generalize (_ == wrap64 _) = q_; cases p_ <;> cases q_ <;> rfl)), H', ⟨by have := HJ6.out; have := HK2.out; first | omega | exact Nat.le_refl _⟩, ⟨by (with_reducible repeat (first | apply Kd.R_alloc | apply Kd.R_drewN | apply Kd.R_drew)); exact Kd.R_mono (Kd.R_far (p := ⟨gb281, 2, none⟩) (Kd.R_far (p := ⟨gb281, 1, none⟩) (Kd.R_far (p := ⟨gb281, 0, none⟩) (Kd.R_mono HO_5.out (fun k_ hk => (⟨hk, hk.2⟩ : _ ∧ k_ ≠ gb281))) (fun _ hk => hk.2) (.int .i64 ((rd_T40 t274 x10_2).f0))) (fun _ hk => hk.2) (.int .i64 ((rd_T40 t274 x10_2).f1))) (fun _ hk => hk.2) (.string ((rd_T40 t274 x10_2).f2))) (fun _ hk => hk.1.2)⟩, ⟨by (with_reducible repeat (first | apply Kd.R_alloc | apply Kd.R_drewN | apply Kd.R_drew)); exact Kd.R_mono (Kd.R_far (p := ⟨gb281, 2, none⟩) (Kd.R_far (p := ⟨gb281, 1, none⟩) (Kd.R_far (p := ⟨gb281, 0, none⟩) (Kd.R_types HO_9.out BK281.out (by decide)) (fun _ hk => hk.2) (.int .i64 ((rd_T40 t274 x10_2).f0))) (fun _ hk => hk.2) (.int .i64 ((rd_T40 t274 x10_2).f1))) (fun _ hk => hk.2) (.string ((rd_T40 t274 x10_2).f2))) (fun _ hk => trivial)⟩, ⟨by (with_reducible repeat (first | refine blk_drewN ?_ _ | refine blk_drew ?_ | refine blk_alloc ?_ _)); refine blk_put (cs := #[.int .i64 ((rd_T40 t274 x10_2).f0), .int .i64 ((rd_T40 t274 x10_2).f1), .string (⟨#[]⟩ : ByteArray)]) ?_ 2 _ rfl; (with_reducible repeat (first | refine blk_drewN ?_ _ | refine blk_drew ?_ | refine blk_alloc ?_ _)); refine blk_put (cs := #[.int .i64 ((rd_T40 t274 x10_2).f0), .int .i64 0, .string (⟨#[]⟩ : ByteArray)]) ?_ 1 _ rfl; (with_reducible repeat (first | refine blk_drewN ?_ _ | refine blk_drew ?_ | refine blk_alloc ?_ _)); refine blk_put (cs := #[.int .i64 0, .int .i64 0, .string (⟨#[]⟩ : ByteArray)]) ?_ 0 _ rfl; (with_reducible repeat (first | refine blk_drewN ?_ _ | refine blk_drew ?_ | refine blk_alloc ?_ _)); exact BK281.out⟩, ⟨by repeat (first | (with_reducible first | exact HB.out | apply below_alloc | apply pw_below_drewN | apply below_drew1 | refine below_set ?_ GE281.out) | exact HB.out)⟩⟩
                                    · rw [if_neg c33] at H
                                      have c33b0 : decide (5 < ((rd_T40 t274 x10_2).f0)) = false := decide_eq_false c33
                                      clear c33
                                      have H' := Aside0.mk H
                                      clear H
                                      have hcz35_0 : w21.cell? ⟨gb281, 0, none⟩ = some (.int .i64 0) := (blk_cell BK281.out 0).trans rfl
                                      have hcz35_1 : w21.cell? ⟨gb281, 1, none⟩ = some (.int .i64 0) := (blk_cell BK281.out 1).trans rfl
                                      have hcz35_2 : w21.cell? ⟨gb281, 2, none⟩ = some (.string (⟨#[]⟩ : ByteArray)) := (blk_cell BK281.out 2).trans rfl
                                      have hfz35_0 := blk_frozen BK281.out 0
                                      have hfz35_1 := blk_frozen BK281.out 1
                                      have hfz35_2 := blk_frozen BK281.out 2
                                      go_wp2
                                      repeat (go_quiet (fail); try go_wp2)
                                      go_meet
                                      case rel => exact ⟨_, (((((rd_T40 t274 x10_2).f2).toList == ([] : List UInt8)) != (x10_2 == (wrap64 ((t274.length : Int) - 1))))), (by first | rfl | (simp; done) | (simp [*]; done) | (simp; generalize List.isEmpty _ = p_; generalize (_ == wrap64 _) = q_; cases p_ <;> cases q_ <;> rfl)), H', ⟨by have := HJ6.out; have := HK2.out; first | omega | exact Nat.le_refl _⟩, ⟨by (with_reducible repeat (first | apply Kd.R_alloc | apply Kd.R_drewN | apply Kd.R_drew)); exact Kd.R_mono (Kd.R_far (p := ⟨gb281, 2, none⟩) (Kd.R_far (p := ⟨gb281, 1, none⟩) (Kd.R_far (p := ⟨gb281, 0, none⟩) (Kd.R_mono HO_5.out (fun k_ hk => (⟨hk, hk.2⟩ : _ ∧ k_ ≠ gb281))) (fun _ hk => hk.2) (.int .i64 ((rd_T40 t274 x10_2).f0))) (fun _ hk => hk.2) (.int .i64 ((rd_T40 t274 x10_2).f1))) (fun _ hk => hk.2) (.string ((rd_T40 t274 x10_2).f2))) (fun _ hk => hk.1.2)⟩, ⟨by (with_reducible repeat (first | apply Kd.R_alloc | apply Kd.R_drewN | apply Kd.R_drew)); exact Kd.R_mono (Kd.R_far (p := ⟨gb281, 2, none⟩) (Kd.R_far (p := ⟨gb281, 1, none⟩) (Kd.R_far (p := ⟨gb281, 0, none⟩) (Kd.R_types HO_9.out BK281.out (by decide)) (fun _ hk => hk.2) (.int .i64 ((rd_T40 t274 x10_2).f0))) (fun _ hk => hk.2) (.int .i64 ((rd_T40 t274 x10_2).f1))) (fun _ hk => hk.2) (.string ((rd_T40 t274 x10_2).f2))) (fun _ hk => trivial)⟩, ⟨by (with_reducible repeat (first | refine blk_drewN ?_ _ | refine blk_drew ?_ | refine blk_alloc ?_ _)); refine blk_put (cs := #[.int .i64 ((rd_T40 t274 x10_2).f0), .int .i64 ((rd_T40 t274 x10_2).f1), .string (⟨#[]⟩ : ByteArray)]) ?_ 2 _ rfl; (with_reducible repeat (first | refine blk_drewN ?_ _ | refine blk_drew ?_ | refine blk_alloc ?_ _)); refine blk_put (cs := #[.int .i64 ((rd_T40 t274 x10_2).f0), .int .i64 0, .string (⟨#[]⟩ : ByteArray)]) ?_ 1 _ rfl; (with_reducible repeat (first | refine blk_drewN ?_ _ | refine blk_drew ?_ | refine blk_alloc ?_ _)); refine blk_put (cs := #[.int .i64 0, .int .i64 0, .string (⟨#[]⟩ : ByteArray)]) ?_ 0 _ rfl; (with_reducible repeat (first | refine blk_drewN ?_ _ | refine blk_drew ?_ | refine blk_alloc ?_ _)); exact BK281.out⟩, ⟨by repeat (first | (with_reducible first | exact HB.out | apply below_alloc | apply pw_below_drewN | apply below_drew1 | refine below_set ?_ GE281.out) | exact HB.out)⟩⟩
                                · rw [if_neg c30] at H
                                  have c30b0 : ((a0.extract (((rd_T40 t274 x10_2).f1) : Int).toNat ((wrap64 (((rd_T40 t274 x10_2).f1) + (((rd_T40 t274 x10_2).f2).size : Int))) : Int).toNat).toList == ((rd_T40 t274 x10_2).f2).toList) = false := beq_eq_false_iff_ne.mpr c30
                                  have c30b1 : ((a0.extract (((rd_T40 t274 x10_2).f1) : Int).toNat ((wrap64 (((rd_T40 t274 x10_2).f1) + (((rd_T40 t274 x10_2).f2).size : Int))) : Int).toNat).toList != ((rd_T40 t274 x10_2).f2).toList) = true := bne_iff_ne.mpr c30
                                  have H' := Aside0.mk H
                                  clear H
                                  have hcz36_0 : w21.cell? ⟨gb281, 0, none⟩ = some (.int .i64 0) := (blk_cell BK281.out 0).trans rfl
                                  have hcz36_1 : w21.cell? ⟨gb281, 1, none⟩ = some (.int .i64 0) := (blk_cell BK281.out 1).trans rfl
                                  have hcz36_2 : w21.cell? ⟨gb281, 2, none⟩ = some (.string (⟨#[]⟩ : ByteArray)) := (blk_cell BK281.out 2).trans rfl
                                  have hfz36_0 := blk_frozen BK281.out 0
                                  have hfz36_1 := blk_frozen BK281.out 1
                                  have hfz36_2 := blk_frozen BK281.out 2
                                  go_wp2
                                  repeat (go_quiet (fail); try go_wp2)
                                  go_meet
                                  case rel => exact ⟨_, (true), (by first | rfl | (simp; done) | (simp [*]; done) | (simp; generalize List.isEmpty _ = p_; generalize (_ == wrap64 _) = q_; cases p_ <;> cases q_ <;> rfl)), H', ⟨by have := HJ6.out; have := HK2.out; first | omega | exact Nat.le_refl _⟩, ⟨by (with_reducible repeat (first | apply Kd.R_alloc | apply Kd.R_drewN | apply Kd.R_drew)); exact Kd.R_mono (Kd.R_far (p := ⟨gb281, 2, none⟩) (Kd.R_far (p := ⟨gb281, 1, none⟩) (Kd.R_far (p := ⟨gb281, 0, none⟩) (Kd.R_mono HO_5.out (fun k_ hk => (⟨hk, hk.2⟩ : _ ∧ k_ ≠ gb281))) (fun _ hk => hk.2) (.int .i64 ((rd_T40 t274 x10_2).f0))) (fun _ hk => hk.2) (.int .i64 ((rd_T40 t274 x10_2).f1))) (fun _ hk => hk.2) (.string ((rd_T40 t274 x10_2).f2))) (fun _ hk => hk.1.2)⟩, ⟨by (with_reducible repeat (first | apply Kd.R_alloc | apply Kd.R_drewN | apply Kd.R_drew)); exact Kd.R_mono (Kd.R_far (p := ⟨gb281, 2, none⟩) (Kd.R_far (p := ⟨gb281, 1, none⟩) (Kd.R_far (p := ⟨gb281, 0, none⟩) (Kd.R_types HO_9.out BK281.out (by decide)) (fun _ hk => hk.2) (.int .i64 ((rd_T40 t274 x10_2).f0))) (fun _ hk => hk.2) (.int .i64 ((rd_T40 t274 x10_2).f1))) (fun _ hk => hk.2) (.string ((rd_T40 t274 x10_2).f2))) (fun _ hk => trivial)⟩, ⟨by (with_reducible repeat (first | refine blk_drewN ?_ _ | refine blk_drew ?_ | refine blk_alloc ?_ _)); refine blk_put (cs := #[.int .i64 ((rd_T40 t274 x10_2).f0), .int .i64 ((rd_T40 t274 x10_2).f1), .string (⟨#[]⟩ : ByteArray)]) ?_ 2 _ rfl; (with_reducible repeat (first | refine blk_drewN ?_ _ | refine blk_drew ?_ | refine blk_alloc ?_ _)); refine blk_put (cs := #[.int .i64 ((rd_T40 t274 x10_2).f0), .int .i64 0, .string (⟨#[]⟩ : ByteArray)]) ?_ 1 _ rfl; (with_reducible repeat (first | refine blk_drewN ?_ _ | refine blk_drew ?_ | refine blk_alloc ?_ _)); refine blk_put (cs := #[.int .i64 0, .int .i64 0, .string (⟨#[]⟩ : ByteArray)]) ?_ 0 _ rfl; (with_reducible repeat (first | refine blk_drewN ?_ _ | refine blk_drew ?_ | refine blk_alloc ?_ _)); exact BK281.out⟩, ⟨by repeat (first | (with_reducible first | exact HB.out | apply below_alloc | apply pw_below_drewN | apply below_drew1 | refine below_set ?_ GE281.out) | exact HB.out)⟩⟩
                              · rw [if_neg c29] at H
                                exact absurd H (by simp)
                            · rw [if_neg c28] at H
                              exact absurd H (by simp)
                          · rw [if_neg c27] at H
                            exact absurd H (by simp)
                    case rest =>
                      clear HC19
                      try clear c1
                      try clear c2
                      try clear p2
                      try clear q2
                      try clear hx2
                      try clear c3
                      try clear c4
                      try clear c6
                      try clear c6b0
                      try clear c6b1
                      try clear p6
                      try clear c8
                      try clear c10
                      try clear c10b0
                      try clear c10b1
                      try clear c13
                      try clear c13b0
                      try clear c14
                      try clear c14b0
                      try clear c16
                      try clear c17
                      try clear c17b0
                      try clear c18
                      try clear c18b0
                      try clear c23
                      try clear c23b0
                      try clear c25
                      try clear c25b0
                      try clear c27
                      try clear c27b0
                      try clear c27b1
                      try clear p27
                      try clear q27
                      try clear hx27
                      try clear c28
                      try clear c28b0
                      try clear c28b1
                      try clear p28
                      try clear q28
                      try clear hx28
                      try clear c29
                      try clear c29b0
                      try clear c29b1
                      try clear c30
                      try clear c30b0
                      try clear c30b1
                      try clear c31
                      try clear c31b0
                      try clear c33
                      try clear c33b0
                      try clear hcz22_0
                      try clear hcz22_1
                      try clear hcz22_2
                      try clear hcz24_0
                      try clear hcz24_1
                      try clear hcz24_2
                      try clear hcz26_0
                      try clear hcz26_1
                      try clear hcz26_2
                      try clear hcz32_0
                      try clear hcz32_1
                      try clear hcz32_2
                      try clear hcz34_0
                      try clear hcz34_1
                      try clear hcz34_2
                      try clear hcz35_0
                      try clear hcz35_1
                      try clear hcz35_2
                      try clear hcz36_0
                      try clear hcz36_1
                      try clear hcz36_2
                      try clear hfz22_0
                      try clear hfz22_1
                      try clear hfz22_2
                      try clear hfz24_0
                      try clear hfz24_1
                      try clear hfz24_2
                      try clear hfz26_0
                      try clear hfz26_1
                      try clear hfz26_2
                      try clear hfz32_0
                      try clear hfz32_1
                      try clear hfz32_2
                      try clear hfz34_0
                      try clear hfz34_1
                      try clear hfz34_2
                      try clear hfz35_0
                      try clear hfz35_1
                      try clear hfz35_2
                      try clear hfz36_0
                      try clear hfz36_1
                      try clear hfz36_2
                      try clear hx279_0
                      try clear hx279_1
                      try clear hx279_2
                      try clear hx280_0
                      try clear hx280_1
                      try clear hx280_2
                      try clear p2
                      try clear p279
                      try clear p280
                      try clear p6
                      try clear q2
                      try clear q279
                      try clear q280
                      obtain ⟨kq, x114_18, rfl, HA, HJ18, HO_5, HO_9, BK281, HB⟩ := hcut
                      cases kq with
                      | zero => exact absurd HA.out (by simp [sigillaw4_ScanPlaces.j2])
                      | succ kj18 =>
                        have H := HA.out
                        clear HA
                        simp only [sigillaw4_ScanPlaces.j2] at H
                        by_cases c37 : x114_18 = true
                        · subst c37
                          have H1 : (some false) = some r := by rw [if_pos rfl] at H; exact H
                          clear H
                          have H := H1
                          clear H1
                          obtain rfl := Option.some.inj H
                          go_wp2
                          repeat (go_quiet (fail); try go_wp2)
                          go_ret
                          exact ⟨by first | rfl | (simp [errW_none, errW_some] <;> rfl) | (simp [*, errW_none, errW_some] <;> rfl), by repeat (first | (with_reducible first | exact HB.out | apply below_alloc | apply pw_below_drewN | apply below_drew1 | refine below_set ?_ GE281.out) | exact HB.out)⟩
                        · replace c37 := Bool.eq_false_iff.mpr c37
                          subst c37
                          have H1 : (if x9_2.length + ((rd_T40 t274 x10_2).f2).size < 140737488355328 then ((some (x9_2 ++ bytesOf ((rd_T40 t274 x10_2).f2) : List Int)).bind fun y282 => (if (l1.length : Int) > 0 then (if (l1.length : Int) = 0 then (none) else (if 0 ≤ (Int.tmod x10_2 (l1.length : Int)) then (if (Int.tmod x10_2 (l1.length : Int)) < (l1.length : Int) then ((sigillaw4_fill.f (rd l1 (Int.tmod x10_2 (l1.length : Int)))).bind fun t286 => (if y282.length + t286.size < 140737488355328 then (sigillaw4_ScanPlaces.l0 kj18 a0 l1 t274 (wrap64 (((rd_T40 t274 x10_2).f1) + (((rd_T40 t274 x10_2).f2).size : Int))) (y282 ++ bytesOf t286) (wrap64 (x10_2 + 1))) else (none))) else (none)) else (none))) else (if y282.length < 140737488355328 then (sigillaw4_ScanPlaces.l0 kj18 a0 l1 t274 (wrap64 (((rd_T40 t274 x10_2).f1) + (((rd_T40 t274 x10_2).f2).size : Int))) (y282 ++ [32]) (wrap64 (x10_2 + 1))) else (none)))) else (none)) = some r := by rw [if_neg (show ¬ (false = true) by decide)] at H; exact H
                          clear H
                          have H := H1
                          clear H1
                          by_cases c38 : x9_2.length + ((rd_T40 t274 x10_2).f2).size < 140737488355328
                          · rw [if_pos c38] at H
                            have LMc38 := Aside0.mk c38
                            clear c38
                            obtain ⟨y282, hy282⟩ : ∃ y_ : List Int, y_ = (x9_2 ++ bytesOf ((rd_T40 t274 x10_2).f2)) := ⟨_, rfl⟩
                            replace H : (if (l1.length : Int) > 0 then (if (l1.length : Int) = 0 then (none) else (if 0 ≤ (Int.tmod x10_2 (l1.length : Int)) then (if (Int.tmod x10_2 (l1.length : Int)) < (l1.length : Int) then ((sigillaw4_fill.f (rd l1 (Int.tmod x10_2 (l1.length : Int)))).bind fun t286 => (if y282.length + t286.size < 140737488355328 then (sigillaw4_ScanPlaces.l0 kj18 a0 l1 t274 (wrap64 (((rd_T40 t274 x10_2).f1) + (((rd_T40 t274 x10_2).f2).size : Int))) (y282 ++ bytesOf t286) (wrap64 (x10_2 + 1))) else (none))) else (none)) else (none))) else (if y282.length < 140737488355328 then (sigillaw4_ScanPlaces.l0 kj18 a0 l1 t274 (wrap64 (((rd_T40 t274 x10_2).f1) + (((rd_T40 t274 x10_2).f2).size : Int))) (y282 ++ [32]) (wrap64 (x10_2 + 1))) else (none))) = some r := by first | (rw [hy282]; with_reducible exact H) | (have H2_ := (Option.bind_some _ _).symm.trans H; rw [hy282]; with_reducible exact H2_) | (have H2_ := (Option.bind_some _ _).symm.trans H; with_reducible exact H2_) | with_reducible exact H | (rw [hy282]; exact H) | exact H
                            have Ny282 := Aside0.mk hy282
                            clear hy282
                            by_cases c39 : (l1.length : Int) > 0
                            · rw [if_pos c39] at H
                              have c39b0 : decide (0 < (l1.length : Int)) = true := decide_eq_true c39
                              have c39b1 : decide (0 < l1.length) = true := decide_eq_true (by omega)
                              clear c39
                              by_cases c40 : (l1.length : Int) = 0
                              · rw [if_pos c40] at H
                                exact absurd H (by simp)
                              · rw [if_neg c40] at H
                                have c40b0 : ((l1.length : Int) == 0) = false := beq_eq_false_iff_ne.mpr c40
                                have c40b1 : ((l1.length : Int) != 0) = true := bne_iff_ne.mpr c40
                                have c40b2 : ¬ (l1 = []) := fun h_ => c40 (by rw [h_]; rfl)
                                obtain ⟨ji41, hji41⟩ : ∃ j_ : Int, (Int.tmod x10_2 (l1.length : Int)) = j_ := ⟨_, rfl⟩
                                replace H : (if 0 ≤ (ji41) then (if (ji41) < (l1.length : Int) then ((sigillaw4_fill.f (rd l1 (ji41))).bind fun t286 => (if y282.length + t286.size < 140737488355328 then (sigillaw4_ScanPlaces.l0 kj18 a0 l1 t274 (wrap64 (((rd_T40 t274 x10_2).f1) + (((rd_T40 t274 x10_2).f2).size : Int))) (y282 ++ bytesOf t286) (wrap64 (x10_2 + 1))) else (none))) else (none)) else (none)) = some r := by first | (rw [hji41] at H; exact H) | (simp only [hji41] at H ⊢; exact H)
                                by_cases c42 : 0 ≤ (ji41)
                                · rw [if_pos c42] at H
                                  have c42b0 : decide (0 ≤ (ji41)) = true := decide_eq_true c42
                                  clear c42
                                  by_cases c43 : (ji41) < (l1.length : Int)
                                  · rw [if_pos c43] at H
                                    have c43b0 : decide ((ji41) < (l1.length : Int)) = true := decide_eq_true c43
                                    clear c43
                                    replace H := Option.bind_eq_some_iff.mp H
                                    obtain ⟨t286, A440, H⟩ := H
                                    replace H : (if y282.length + t286.size < 140737488355328 then (sigillaw4_ScanPlaces.l0 kj18 a0 l1 t274 (wrap64 (((rd_T40 t274 x10_2).f1) + (((rd_T40 t274 x10_2).f2).size : Int))) (y282 ++ bytesOf t286) (wrap64 (x10_2 + 1))) else (none)) = some r := H
                                    have A44 := Aside0.mk A440
                                    clear A440
                                    by_cases c45 : y282.length + t286.size < 140737488355328
                                    · rw [if_pos c45] at H
                                      have LMc45 := Aside0.mk c45
                                      clear c45
                                      obtain ⟨y287, hy287⟩ : ∃ y_ : List Int, y_ = (y282 ++ bytesOf t286) := ⟨_, rfl⟩
                                      replace H : (sigillaw4_ScanPlaces.l0 kj18 a0 l1 t274 (wrap64 (((rd_T40 t274 x10_2).f1) + (((rd_T40 t274 x10_2).f2).size : Int))) y287 (wrap64 (x10_2 + 1))) = some r := by first | (rw [hy287]; with_reducible exact H) | (have H2_ := (Option.bind_some _ _).symm.trans H; rw [hy287]; with_reducible exact H2_) | (have H2_ := (Option.bind_some _ _).symm.trans H; with_reducible exact H2_) | with_reducible exact H | (rw [hy287]; exact H) | exact H
                                      have Ny287 := Aside0.mk hy287
                                      clear hy287
                                      have H' := Aside0.mk H
                                      clear H
                                      have hcz46_0 : wc.cell? ⟨gb281, 0, none⟩ = some (.int .i64 ((rd_T40 t274 x10_2).f0)) := (blk_cell BK281.out 0).trans rfl
                                      have hcz46_1 : wc.cell? ⟨gb281, 1, none⟩ = some (.int .i64 ((rd_T40 t274 x10_2).f1)) := (blk_cell BK281.out 1).trans rfl
                                      have hcz46_2 : wc.cell? ⟨gb281, 2, none⟩ = some (.string ((rd_T40 t274 x10_2).f2)) := (blk_cell BK281.out 2).trans rfl
                                      have hfz46_0 := blk_frozen BK281.out 0
                                      have hfz46_1 := blk_frozen BK281.out 1
                                      have hfz46_2 := blk_frozen BK281.out 2
                                      go_wp2_with (first | (at_builtin; refine print_append_str (w0 := w) w.heap.size rfl (.tmp 121) _ 33 9 5 rfl Tryd.underlying33 Tryd.underlying9 info5 u9 x9_2 ((rd_T40 t274 x10_2).f2) rfl rfl ?aO ?aB ?aS ?aL ?_; (case aB => exact (by repeat (first | (with_reducible first | exact HB.out | apply below_alloc | apply pw_below_drewN | apply below_drew1 | refine below_set ?_ GE281.out) | exact HB.out))); (case aO => exact (Kd.own_of_R (by (with_reducible repeat (first | apply Kd.R_alloc | apply Kd.R_drewN | apply Kd.R_drew)); exact HO_9.out))); (case aS => exact (below_size (by repeat (first | (with_reducible first | exact HB.out | apply below_alloc | apply pw_below_drewN | apply below_drew1 | refine below_set ?_ GE281.out) | exact HB.out)))); (case aL => have := LMc38.out; omega); intro v283 w47 ho0 hb hg; have ho := Kd.R_of_own (h1 := fun _ => rfl) (ok := fun _ => True) ho0 (fun _ _ => trivial); clear ho0; have hat := True.intro; rw [← Ny282.out] at ho; change Kd.R (Kd.int .u8) 5 w47 w.heap.size (fun _ => True) v283 y282 at ho; have n0_ := Aside0.mk (Kd.R_over' (by (with_reducible repeat (first | apply Kd.R_alloc | apply Kd.R_drewN | apply Kd.R_drew)); exact HO_5.out) (Kd.R_typed (by (with_reducible repeat (first | apply Kd.R_alloc | apply Kd.R_drewN | apply Kd.R_drew)); exact HO_9.out)) (by decide) hg); have n1_ := Aside0.mk (blk_grown (g := gb281) (o := .cells #[.int .i64 ((rd_T40 t274 x10_2).f0), .int .i64 ((rd_T40 t274 x10_2).f1), .string ((rd_T40 t274 x10_2).f2)] 40 (0, 0)) (by (with_reducible repeat (first | refine blk_drewN ?_ _ | refine blk_drew ?_ | refine blk_alloc ?_ _)); exact BK281.out) hg (Kd.R_ne HO_9.out BK281.out (by decide))); have n2_ := Aside0.mk (hb); have n3_ := Aside0.mk (ho); clear HO_5; clear BK281; clear HB; clear HO_9; have HO_5 := n0_; have BK281 := n1_; have HB := n2_; have HO284 := n3_; clear n0_ n1_ n2_ n3_; clear ho hb hg hat; have p285 : 0 ≤ ((ji41) : Int) := of_decide_eq_true (by first | (with_reducible assumption) | assumption); have q285 : (ji41) < (l1.length : Int) := of_decide_eq_true (by first | (with_reducible assumption) | assumption); obtain ⟨ad285, e285, hx285_0⟩ := Kd.at_int HR1.out (ji41) p285 q285; cases e285; replace hx285_0 := (HB.out.cell (World.block_lt_of_cell? w _ hx285_0)).trans hx285_0; replace p285 := eq_true p285; replace q285 := eq_true q285) | (go_at_call 22; (with_reducible refine (sigillaw4_fill.calls (rd l1 (ji41)) t286 _ A44.out).mono ?_); rintro e w48 ⟨rfl, hb⟩; have n0_ := Aside0.mk (Kd.R_below (by (with_reducible repeat (first | apply Kd.R_alloc | apply Kd.R_drewN | apply Kd.R_drew)); exact HO_5.out) hb); have n1_ := Aside0.mk (Kd.R_below (by (with_reducible repeat (first | apply Kd.R_alloc | apply Kd.R_drewN | apply Kd.R_drew)); exact HO284.out) hb); have n2_ := Aside0.mk (blk_below (g := gb281) (o := .cells #[.int .i64 ((rd_T40 t274 x10_2).f0), .int .i64 ((rd_T40 t274 x10_2).f1), .string ((rd_T40 t274 x10_2).f2)] 40 (0, 0)) (by (with_reducible repeat (first | refine blk_drewN ?_ _ | refine blk_drew ?_ | refine blk_alloc ?_ _)); exact BK281.out) hb); have n3_ := Aside0.mk (below_step (by repeat (first | (with_reducible first | exact HB.out | apply below_alloc | apply pw_below_drewN | apply below_drew1 | refine below_set ?_ GE281.out) | exact HB.out)) hb); clear HO_5; clear HO284; clear BK281; clear HB; have HO_5 := n0_; have HO284 := n1_; have BK281 := n2_; have HB := n3_; clear n0_ n1_ n2_ n3_; (try clear hb); (try clear hb2); (try clear hk); (try clear hi)) | (at_builtin; refine print_append_str (w0 := w) w.heap.size rfl (.tmp 128) _ 33 9 5 rfl Tryd.underlying33 Tryd.underlying9 info5 v283 y282 t286 rfl rfl ?aO ?aB ?aS ?aL ?_; (case aB => exact (by repeat (first | (with_reducible first | exact HB.out | apply below_alloc | apply pw_below_drewN | apply below_drew1 | refine below_set ?_ GE281.out) | exact HB.out))); (case aO => exact (Kd.own_of_R (by (with_reducible repeat (first | apply Kd.R_alloc | apply Kd.R_drewN | apply Kd.R_drew)); exact HO284.out))); (case aS => exact (below_size (by repeat (first | (with_reducible first | exact HB.out | apply below_alloc | apply pw_below_drewN | apply below_drew1 | refine below_set ?_ GE281.out) | exact HB.out)))); (case aL => have := LMc45.out; omega); intro v288 w49 ho0 hb hg; have ho := Kd.R_of_own (h1 := fun _ => rfl) (ok := fun _ => True) ho0 (fun _ _ => trivial); clear ho0; have hat := True.intro; rw [← Ny287.out] at ho; change Kd.R (Kd.int .u8) 5 w49 w.heap.size (fun _ => True) v288 y287 at ho; have n0_ := Aside0.mk (Kd.R_over' (by (with_reducible repeat (first | apply Kd.R_alloc | apply Kd.R_drewN | apply Kd.R_drew)); exact HO_5.out) (Kd.R_typed (by (with_reducible repeat (first | apply Kd.R_alloc | apply Kd.R_drewN | apply Kd.R_drew)); exact HO284.out)) (by decide) hg); have n1_ := Aside0.mk (blk_grown (g := gb281) (o := .cells #[.int .i64 ((rd_T40 t274 x10_2).f0), .int .i64 ((rd_T40 t274 x10_2).f1), .string ((rd_T40 t274 x10_2).f2)] 40 (0, 0)) (by (with_reducible repeat (first | refine blk_drewN ?_ _ | refine blk_drew ?_ | refine blk_alloc ?_ _)); exact BK281.out) hg (Kd.R_ne HO284.out BK281.out (by decide))); have n2_ := Aside0.mk (hb); have n3_ := Aside0.mk (ho); clear HO_5; clear BK281; clear HB; clear HO284; have HO_5 := n0_; have BK281 := n1_; have HB := n2_; have HO289 := n3_; clear n0_ n1_ n2_ n3_; clear ho hb hg hat))
                                      repeat (go_quiet (first | (at_builtin; refine print_append_str (w0 := w) w.heap.size rfl (.tmp 121) _ 33 9 5 rfl Tryd.underlying33 Tryd.underlying9 info5 u9 x9_2 ((rd_T40 t274 x10_2).f2) rfl rfl ?aO ?aB ?aS ?aL ?_; (case aB => exact (by repeat (first | (with_reducible first | exact HB.out | apply below_alloc | apply pw_below_drewN | apply below_drew1 | refine below_set ?_ GE281.out) | exact HB.out))); (case aO => exact (Kd.own_of_R (by (with_reducible repeat (first | apply Kd.R_alloc | apply Kd.R_drewN | apply Kd.R_drew)); exact HO_9.out))); (case aS => exact (below_size (by repeat (first | (with_reducible first | exact HB.out | apply below_alloc | apply pw_below_drewN | apply below_drew1 | refine below_set ?_ GE281.out) | exact HB.out)))); (case aL => have := LMc38.out; omega); intro v283 w47 ho0 hb hg; have ho := Kd.R_of_own (h1 := fun _ => rfl) (ok := fun _ => True) ho0 (fun _ _ => trivial); clear ho0; have hat := True.intro; rw [← Ny282.out] at ho; change Kd.R (Kd.int .u8) 5 w47 w.heap.size (fun _ => True) v283 y282 at ho; have n0_ := Aside0.mk (Kd.R_over' (by (with_reducible repeat (first | apply Kd.R_alloc | apply Kd.R_drewN | apply Kd.R_drew)); exact HO_5.out) (Kd.R_typed (by (with_reducible repeat (first | apply Kd.R_alloc | apply Kd.R_drewN | apply Kd.R_drew)); exact HO_9.out)) (by decide) hg); have n1_ := Aside0.mk (blk_grown (g := gb281) (o := .cells #[.int .i64 ((rd_T40 t274 x10_2).f0), .int .i64 ((rd_T40 t274 x10_2).f1), .string ((rd_T40 t274 x10_2).f2)] 40 (0, 0)) (by (with_reducible repeat (first | refine blk_drewN ?_ _ | refine blk_drew ?_ | refine blk_alloc ?_ _)); exact BK281.out) hg (Kd.R_ne HO_9.out BK281.out (by decide))); have n2_ := Aside0.mk (hb); have n3_ := Aside0.mk (ho); clear HO_5; clear BK281; clear HB; clear HO_9; have HO_5 := n0_; have BK281 := n1_; have HB := n2_; have HO284 := n3_; clear n0_ n1_ n2_ n3_; clear ho hb hg hat; have p285 : 0 ≤ ((ji41) : Int) := of_decide_eq_true (by first | (with_reducible assumption) | assumption); have q285 : (ji41) < (l1.length : Int) := of_decide_eq_true (by first | (with_reducible assumption) | assumption); obtain ⟨ad285, e285, hx285_0⟩ := Kd.at_int HR1.out (ji41) p285 q285; cases e285; replace hx285_0 := (HB.out.cell (World.block_lt_of_cell? w _ hx285_0)).trans hx285_0; replace p285 := eq_true p285; replace q285 := eq_true q285) | (go_at_call 22; (with_reducible refine (sigillaw4_fill.calls (rd l1 (ji41)) t286 _ A44.out).mono ?_); rintro e w48 ⟨rfl, hb⟩; have n0_ := Aside0.mk (Kd.R_below (by (with_reducible repeat (first | apply Kd.R_alloc | apply Kd.R_drewN | apply Kd.R_drew)); exact HO_5.out) hb); have n1_ := Aside0.mk (Kd.R_below (by (with_reducible repeat (first | apply Kd.R_alloc | apply Kd.R_drewN | apply Kd.R_drew)); exact HO284.out) hb); have n2_ := Aside0.mk (blk_below (g := gb281) (o := .cells #[.int .i64 ((rd_T40 t274 x10_2).f0), .int .i64 ((rd_T40 t274 x10_2).f1), .string ((rd_T40 t274 x10_2).f2)] 40 (0, 0)) (by (with_reducible repeat (first | refine blk_drewN ?_ _ | refine blk_drew ?_ | refine blk_alloc ?_ _)); exact BK281.out) hb); have n3_ := Aside0.mk (below_step (by repeat (first | (with_reducible first | exact HB.out | apply below_alloc | apply pw_below_drewN | apply below_drew1 | refine below_set ?_ GE281.out) | exact HB.out)) hb); clear HO_5; clear HO284; clear BK281; clear HB; have HO_5 := n0_; have HO284 := n1_; have BK281 := n2_; have HB := n3_; clear n0_ n1_ n2_ n3_; (try clear hb); (try clear hb2); (try clear hk); (try clear hi)) | (at_builtin; refine print_append_str (w0 := w) w.heap.size rfl (.tmp 128) _ 33 9 5 rfl Tryd.underlying33 Tryd.underlying9 info5 v283 y282 t286 rfl rfl ?aO ?aB ?aS ?aL ?_; (case aB => exact (by repeat (first | (with_reducible first | exact HB.out | apply below_alloc | apply pw_below_drewN | apply below_drew1 | refine below_set ?_ GE281.out) | exact HB.out))); (case aO => exact (Kd.own_of_R (by (with_reducible repeat (first | apply Kd.R_alloc | apply Kd.R_drewN | apply Kd.R_drew)); exact HO284.out))); (case aS => exact (below_size (by repeat (first | (with_reducible first | exact HB.out | apply below_alloc | apply pw_below_drewN | apply below_drew1 | refine below_set ?_ GE281.out) | exact HB.out)))); (case aL => have := LMc45.out; omega); intro v288 w49 ho0 hb hg; have ho := Kd.R_of_own (h1 := fun _ => rfl) (ok := fun _ => True) ho0 (fun _ _ => trivial); clear ho0; have hat := True.intro; rw [← Ny287.out] at ho; change Kd.R (Kd.int .u8) 5 w49 w.heap.size (fun _ => True) v288 y287 at ho; have n0_ := Aside0.mk (Kd.R_over' (by (with_reducible repeat (first | apply Kd.R_alloc | apply Kd.R_drewN | apply Kd.R_drew)); exact HO_5.out) (Kd.R_typed (by (with_reducible repeat (first | apply Kd.R_alloc | apply Kd.R_drewN | apply Kd.R_drew)); exact HO284.out)) (by decide) hg); have n1_ := Aside0.mk (blk_grown (g := gb281) (o := .cells #[.int .i64 ((rd_T40 t274 x10_2).f0), .int .i64 ((rd_T40 t274 x10_2).f1), .string ((rd_T40 t274 x10_2).f2)] 40 (0, 0)) (by (with_reducible repeat (first | refine blk_drewN ?_ _ | refine blk_drew ?_ | refine blk_alloc ?_ _)); exact BK281.out) hg (Kd.R_ne HO284.out BK281.out (by decide))); have n2_ := Aside0.mk (hb); have n3_ := Aside0.mk (ho); clear HO_5; clear BK281; clear HB; clear HO284; have HO_5 := n0_; have BK281 := n1_; have HB := n2_; have HO289 := n3_; clear n0_ n1_ n2_ n3_; clear ho hb hg hat)); try go_wp2_with (first | (at_builtin; refine print_append_str (w0 := w) w.heap.size rfl (.tmp 121) _ 33 9 5 rfl Tryd.underlying33 Tryd.underlying9 info5 u9 x9_2 ((rd_T40 t274 x10_2).f2) rfl rfl ?aO ?aB ?aS ?aL ?_; (case aB => exact (by repeat (first | (with_reducible first | exact HB.out | apply below_alloc | apply pw_below_drewN | apply below_drew1 | refine below_set ?_ GE281.out) | exact HB.out))); (case aO => exact (Kd.own_of_R (by (with_reducible repeat (first | apply Kd.R_alloc | apply Kd.R_drewN | apply Kd.R_drew)); exact HO_9.out))); (case aS => exact (below_size (by repeat (first | (with_reducible first | exact HB.out | apply below_alloc | apply pw_below_drewN | apply below_drew1 | refine below_set ?_ GE281.out) | exact HB.out)))); (case aL => have := LMc38.out; omega); intro v283 w47 ho0 hb hg; have ho := Kd.R_of_own (h1 := fun _ => rfl) (ok := fun _ => True) ho0 (fun _ _ => trivial); clear ho0; have hat := True.intro; rw [← Ny282.out] at ho; change Kd.R (Kd.int .u8) 5 w47 w.heap.size (fun _ => True) v283 y282 at ho; have n0_ := Aside0.mk (Kd.R_over' (by (with_reducible repeat (first | apply Kd.R_alloc | apply Kd.R_drewN | apply Kd.R_drew)); exact HO_5.out) (Kd.R_typed (by (with_reducible repeat (first | apply Kd.R_alloc | apply Kd.R_drewN | apply Kd.R_drew)); exact HO_9.out)) (by decide) hg); have n1_ := Aside0.mk (blk_grown (g := gb281) (o := .cells #[.int .i64 ((rd_T40 t274 x10_2).f0), .int .i64 ((rd_T40 t274 x10_2).f1), .string ((rd_T40 t274 x10_2).f2)] 40 (0, 0)) (by (with_reducible repeat (first | refine blk_drewN ?_ _ | refine blk_drew ?_ | refine blk_alloc ?_ _)); exact BK281.out) hg (Kd.R_ne HO_9.out BK281.out (by decide))); have n2_ := Aside0.mk (hb); have n3_ := Aside0.mk (ho); clear HO_5; clear BK281; clear HB; clear HO_9; have HO_5 := n0_; have BK281 := n1_; have HB := n2_; have HO284 := n3_; clear n0_ n1_ n2_ n3_; clear ho hb hg hat; have p285 : 0 ≤ ((ji41) : Int) := of_decide_eq_true (by first | (with_reducible assumption) | assumption); have q285 : (ji41) < (l1.length : Int) := of_decide_eq_true (by first | (with_reducible assumption) | assumption); obtain ⟨ad285, e285, hx285_0⟩ := Kd.at_int HR1.out (ji41) p285 q285; cases e285; replace hx285_0 := (HB.out.cell (World.block_lt_of_cell? w _ hx285_0)).trans hx285_0; replace p285 := eq_true p285; replace q285 := eq_true q285) | (go_at_call 22; (with_reducible refine (sigillaw4_fill.calls (rd l1 (ji41)) t286 _ A44.out).mono ?_); rintro e w48 ⟨rfl, hb⟩; have n0_ := Aside0.mk (Kd.R_below (by (with_reducible repeat (first | apply Kd.R_alloc | apply Kd.R_drewN | apply Kd.R_drew)); exact HO_5.out) hb); have n1_ := Aside0.mk (Kd.R_below (by (with_reducible repeat (first | apply Kd.R_alloc | apply Kd.R_drewN | apply Kd.R_drew)); exact HO284.out) hb); have n2_ := Aside0.mk (blk_below (g := gb281) (o := .cells #[.int .i64 ((rd_T40 t274 x10_2).f0), .int .i64 ((rd_T40 t274 x10_2).f1), .string ((rd_T40 t274 x10_2).f2)] 40 (0, 0)) (by (with_reducible repeat (first | refine blk_drewN ?_ _ | refine blk_drew ?_ | refine blk_alloc ?_ _)); exact BK281.out) hb); have n3_ := Aside0.mk (below_step (by repeat (first | (with_reducible first | exact HB.out | apply below_alloc | apply pw_below_drewN | apply below_drew1 | refine below_set ?_ GE281.out) | exact HB.out)) hb); clear HO_5; clear HO284; clear BK281; clear HB; have HO_5 := n0_; have HO284 := n1_; have BK281 := n2_; have HB := n3_; clear n0_ n1_ n2_ n3_; (try clear hb); (try clear hb2); (try clear hk); (try clear hi)) | (at_builtin; refine print_append_str (w0 := w) w.heap.size rfl (.tmp 128) _ 33 9 5 rfl Tryd.underlying33 Tryd.underlying9 info5 v283 y282 t286 rfl rfl ?aO ?aB ?aS ?aL ?_; (case aB => exact (by repeat (first | (with_reducible first | exact HB.out | apply below_alloc | apply pw_below_drewN | apply below_drew1 | refine below_set ?_ GE281.out) | exact HB.out))); (case aO => exact (Kd.own_of_R (by (with_reducible repeat (first | apply Kd.R_alloc | apply Kd.R_drewN | apply Kd.R_drew)); exact HO284.out))); (case aS => exact (below_size (by repeat (first | (with_reducible first | exact HB.out | apply below_alloc | apply pw_below_drewN | apply below_drew1 | refine below_set ?_ GE281.out) | exact HB.out)))); (case aL => have := LMc45.out; omega); intro v288 w49 ho0 hb hg; have ho := Kd.R_of_own (h1 := fun _ => rfl) (ok := fun _ => True) ho0 (fun _ _ => trivial); clear ho0; have hat := True.intro; rw [← Ny287.out] at ho; change Kd.R (Kd.int .u8) 5 w49 w.heap.size (fun _ => True) v288 y287 at ho; have n0_ := Aside0.mk (Kd.R_over' (by (with_reducible repeat (first | apply Kd.R_alloc | apply Kd.R_drewN | apply Kd.R_drew)); exact HO_5.out) (Kd.R_typed (by (with_reducible repeat (first | apply Kd.R_alloc | apply Kd.R_drewN | apply Kd.R_drew)); exact HO284.out)) (by decide) hg); have n1_ := Aside0.mk (blk_grown (g := gb281) (o := .cells #[.int .i64 ((rd_T40 t274 x10_2).f0), .int .i64 ((rd_T40 t274 x10_2).f1), .string ((rd_T40 t274 x10_2).f2)] 40 (0, 0)) (by (with_reducible repeat (first | refine blk_drewN ?_ _ | refine blk_drew ?_ | refine blk_alloc ?_ _)); exact BK281.out) hg (Kd.R_ne HO284.out BK281.out (by decide))); have n2_ := Aside0.mk (hb); have n3_ := Aside0.mk (ho); clear HO_5; clear BK281; clear HB; clear HO284; have HO_5 := n0_; have BK281 := n1_; have HB := n2_; have HO289 := n3_; clear n0_ n1_ n2_ n3_; clear ho hb hg hat)))
                                      go_roundg kj18
                                      case measure => have := HJ6.out; have := HK2.out; have := HJ18.out; omega
                                      case rel => exact ⟨(wrap64 (((rd_T40 t274 x10_2).f1) + (((rd_T40 t274 x10_2).f2).size : Int))), (y287), (wrap64 (x10_2 + 1)), (by first | rfl | (simp; done) | (simp [*]; done) | (simp; generalize List.isEmpty _ = p_; generalize (_ == wrap64 _) = q_; cases p_ <;> cases q_ <;> rfl)), (by first | rfl | (simp; done) | (simp [*]; done) | (simp; generalize List.isEmpty _ = p_; generalize (_ == wrap64 _) = q_; cases p_ <;> cases q_ <;> rfl)), H', ⟨by have := HJ6.out; have := HK2.out; have := HJ18.out; omega⟩, ⟨by (with_reducible repeat (first | apply Kd.R_alloc | apply Kd.R_drewN | apply Kd.R_drew)); exact Kd.R_mono HO_5.out (fun _ hk => trivial)⟩, ⟨by (with_reducible repeat (first | apply Kd.R_alloc | apply Kd.R_drewN | apply Kd.R_drew)); exact HO289.out⟩, ⟨by repeat (first | (with_reducible first | exact HB.out | apply below_alloc | apply pw_below_drewN | apply below_drew1 | refine below_set ?_ GE281.out) | exact HB.out)⟩⟩
                                    · rw [if_neg c45] at H
                                      exact absurd H (by simp)
                                  · rw [if_neg c43] at H
                                    exact absurd H (by simp)
                                · rw [if_neg c42] at H
                                  exact absurd H (by simp)
                            · rw [if_neg c39] at H
                              have c39b0 : decide (0 < (l1.length : Int)) = false := decide_eq_false c39
                              have c39b1 : decide (0 < l1.length) = false := decide_eq_false (by omega)
                              clear c39
                              by_cases c50 : y282.length < 140737488355328
                              · rw [if_pos c50] at H
                                have LMc50 := Aside0.mk c50
                                clear c50
                                obtain ⟨y290, hy290⟩ : ∃ y_ : List Int, y_ = (y282 ++ [32]) := ⟨_, rfl⟩
                                replace H : (sigillaw4_ScanPlaces.l0 kj18 a0 l1 t274 (wrap64 (((rd_T40 t274 x10_2).f1) + (((rd_T40 t274 x10_2).f2).size : Int))) y290 (wrap64 (x10_2 + 1))) = some r := by first | (rw [hy290]; with_reducible exact H) | (have H2_ := (Option.bind_some _ _).symm.trans H; rw [hy290]; with_reducible exact H2_) | (have H2_ := (Option.bind_some _ _).symm.trans H; with_reducible exact H2_) | with_reducible exact H | (rw [hy290]; exact H) | exact H
                                have Ny290 := Aside0.mk hy290
                                clear hy290
                                have H' := Aside0.mk H
                                clear H
                                have hcz51_0 : wc.cell? ⟨gb281, 0, none⟩ = some (.int .i64 ((rd_T40 t274 x10_2).f0)) := (blk_cell BK281.out 0).trans rfl
                                have hcz51_1 : wc.cell? ⟨gb281, 1, none⟩ = some (.int .i64 ((rd_T40 t274 x10_2).f1)) := (blk_cell BK281.out 1).trans rfl
                                have hcz51_2 : wc.cell? ⟨gb281, 2, none⟩ = some (.string ((rd_T40 t274 x10_2).f2)) := (blk_cell BK281.out 2).trans rfl
                                have hfz51_0 := blk_frozen BK281.out 0
                                have hfz51_1 := blk_frozen BK281.out 1
                                have hfz51_2 := blk_frozen BK281.out 2
                                go_wp2_with (first | (at_builtin; refine print_append_str (w0 := w) w.heap.size rfl (.tmp 121) _ 33 9 5 rfl Tryd.underlying33 Tryd.underlying9 info5 u9 x9_2 ((rd_T40 t274 x10_2).f2) rfl rfl ?aO ?aB ?aS ?aL ?_; (case aB => exact (by repeat (first | (with_reducible first | exact HB.out | apply below_alloc | apply pw_below_drewN | apply below_drew1 | refine below_set ?_ GE281.out) | exact HB.out))); (case aO => exact (Kd.own_of_R (by (with_reducible repeat (first | apply Kd.R_alloc | apply Kd.R_drewN | apply Kd.R_drew)); exact HO_9.out))); (case aS => exact (below_size (by repeat (first | (with_reducible first | exact HB.out | apply below_alloc | apply pw_below_drewN | apply below_drew1 | refine below_set ?_ GE281.out) | exact HB.out)))); (case aL => have := LMc38.out; omega); intro v283 w52 ho0 hb hg; have ho := Kd.R_of_own (h1 := fun _ => rfl) (ok := fun _ => True) ho0 (fun _ _ => trivial); clear ho0; have hat := True.intro; rw [← Ny282.out] at ho; change Kd.R (Kd.int .u8) 5 w52 w.heap.size (fun _ => True) v283 y282 at ho; have n0_ := Aside0.mk (Kd.R_over' (by (with_reducible repeat (first | apply Kd.R_alloc | apply Kd.R_drewN | apply Kd.R_drew)); exact HO_5.out) (Kd.R_typed (by (with_reducible repeat (first | apply Kd.R_alloc | apply Kd.R_drewN | apply Kd.R_drew)); exact HO_9.out)) (by decide) hg); have n1_ := Aside0.mk (blk_grown (g := gb281) (o := .cells #[.int .i64 ((rd_T40 t274 x10_2).f0), .int .i64 ((rd_T40 t274 x10_2).f1), .string ((rd_T40 t274 x10_2).f2)] 40 (0, 0)) (by (with_reducible repeat (first | refine blk_drewN ?_ _ | refine blk_drew ?_ | refine blk_alloc ?_ _)); exact BK281.out) hg (Kd.R_ne HO_9.out BK281.out (by decide))); have n2_ := Aside0.mk (hb); have n3_ := Aside0.mk (ho); clear HO_5; clear BK281; clear HB; clear HO_9; have HO_5 := n0_; have BK281 := n1_; have HB := n2_; have HO284 := n3_; clear n0_ n1_ n2_ n3_; clear ho hb hg hat) | ((with_reducible refine gate_builtin (b := .append) (xs := #[.tmp 138, .tmp 139]) rfl ?_); (try (refine gate_guard (by rfl) ?_; dsimp only)); at_builtin; refine Kd.R_append (Kd.int .u8) (w0 := w) w.heap.size rfl (.tmp 138) (.tmp 139) 33 5 (.int .u8 0) 1 rfl Tryd.underlying33 info5 rfl (by decide) (by omega) v283 y282 32 [.int .u8 32] (fun _ => True) (fun _ => False) rfl rfl ?aP (fun _ hk => hk.elim) ?aF ?aO ?aB ?aS ?aL ?_; (case aP => exact rfl); (case aB => exact (by repeat (first | (with_reducible first | exact HB.out | apply below_alloc | apply pw_below_drewN | apply below_drew1 | refine below_set ?_ GE281.out) | exact HB.out))); (case aF => exact (fun _ _ => trivial)); (case aO => exact (by (with_reducible repeat (first | apply Kd.R_alloc | apply Kd.R_drewN | apply Kd.R_drew)); exact HO284.out)); (case aS => exact (below_size (by repeat (first | (with_reducible first | exact HB.out | apply below_alloc | apply pw_below_drewN | apply below_drew1 | refine below_set ?_ GE281.out) | exact HB.out)))); (case aL => have := LMc50.out; omega); intro v291 w53 ho hb hg hat; rw [← Ny290.out] at ho; have n0_ := Aside0.mk (Kd.R_over' (by (with_reducible repeat (first | apply Kd.R_alloc | apply Kd.R_drewN | apply Kd.R_drew)); exact HO_5.out) (Kd.R_typed (by (with_reducible repeat (first | apply Kd.R_alloc | apply Kd.R_drewN | apply Kd.R_drew)); exact HO284.out)) (by decide) hg); have n1_ := Aside0.mk (blk_grown (g := gb281) (o := .cells #[.int .i64 ((rd_T40 t274 x10_2).f0), .int .i64 ((rd_T40 t274 x10_2).f1), .string ((rd_T40 t274 x10_2).f2)] 40 (0, 0)) (by (with_reducible repeat (first | refine blk_drewN ?_ _ | refine blk_drew ?_ | refine blk_alloc ?_ _)); exact BK281.out) hg (Kd.R_ne HO284.out BK281.out (by decide))); have n2_ := Aside0.mk (hb); have n3_ := Aside0.mk (ho); clear HO_5; clear BK281; clear HB; clear HO284; have HO_5 := n0_; have BK281 := n1_; have HB := n2_; have HO292 := n3_; clear n0_ n1_ n2_ n3_; clear ho hb hg hat))
                                repeat (go_quiet (first | (at_builtin; refine print_append_str (w0 := w) w.heap.size rfl (.tmp 121) _ 33 9 5 rfl Tryd.underlying33 Tryd.underlying9 info5 u9 x9_2 ((rd_T40 t274 x10_2).f2) rfl rfl ?aO ?aB ?aS ?aL ?_; (case aB => exact (by repeat (first | (with_reducible first | exact HB.out | apply below_alloc | apply pw_below_drewN | apply below_drew1 | refine below_set ?_ GE281.out) | exact HB.out))); (case aO => exact (Kd.own_of_R (by (with_reducible repeat (first | apply Kd.R_alloc | apply Kd.R_drewN | apply Kd.R_drew)); exact HO_9.out))); (case aS => exact (below_size (by repeat (first | (with_reducible first | exact HB.out | apply below_alloc | apply pw_below_drewN | apply below_drew1 | refine below_set ?_ GE281.out) | exact HB.out)))); (case aL => have := LMc38.out; omega); intro v283 w52 ho0 hb hg; have ho := Kd.R_of_own (h1 := fun _ => rfl) (ok := fun _ => True) ho0 (fun _ _ => trivial); clear ho0; have hat := True.intro; rw [← Ny282.out] at ho; change Kd.R (Kd.int .u8) 5 w52 w.heap.size (fun _ => True) v283 y282 at ho; have n0_ := Aside0.mk (Kd.R_over' (by (with_reducible repeat (first | apply Kd.R_alloc | apply Kd.R_drewN | apply Kd.R_drew)); exact HO_5.out) (Kd.R_typed (by (with_reducible repeat (first | apply Kd.R_alloc | apply Kd.R_drewN | apply Kd.R_drew)); exact HO_9.out)) (by decide) hg); have n1_ := Aside0.mk (blk_grown (g := gb281) (o := .cells #[.int .i64 ((rd_T40 t274 x10_2).f0), .int .i64 ((rd_T40 t274 x10_2).f1), .string ((rd_T40 t274 x10_2).f2)] 40 (0, 0)) (by (with_reducible repeat (first | refine blk_drewN ?_ _ | refine blk_drew ?_ | refine blk_alloc ?_ _)); exact BK281.out) hg (Kd.R_ne HO_9.out BK281.out (by decide))); have n2_ := Aside0.mk (hb); have n3_ := Aside0.mk (ho); clear HO_5; clear BK281; clear HB; clear HO_9; have HO_5 := n0_; have BK281 := n1_; have HB := n2_; have HO284 := n3_; clear n0_ n1_ n2_ n3_; clear ho hb hg hat) | ((with_reducible refine gate_builtin (b := .append) (xs := #[.tmp 138, .tmp 139]) rfl ?_); (try (refine gate_guard (by rfl) ?_; dsimp only)); at_builtin; refine Kd.R_append (Kd.int .u8) (w0 := w) w.heap.size rfl (.tmp 138) (.tmp 139) 33 5 (.int .u8 0) 1 rfl Tryd.underlying33 info5 rfl (by decide) (by omega) v283 y282 32 [.int .u8 32] (fun _ => True) (fun _ => False) rfl rfl ?aP (fun _ hk => hk.elim) ?aF ?aO ?aB ?aS ?aL ?_; (case aP => exact rfl); (case aB => exact (by repeat (first | (with_reducible first | exact HB.out | apply below_alloc | apply pw_below_drewN | apply below_drew1 | refine below_set ?_ GE281.out) | exact HB.out))); (case aF => exact (fun _ _ => trivial)); (case aO => exact (by (with_reducible repeat (first | apply Kd.R_alloc | apply Kd.R_drewN | apply Kd.R_drew)); exact HO284.out)); (case aS => exact (below_size (by repeat (first | (with_reducible first | exact HB.out | apply below_alloc | apply pw_below_drewN | apply below_drew1 | refine below_set ?_ GE281.out) | exact HB.out)))); (case aL => have := LMc50.out; omega); intro v291 w53 ho hb hg hat; rw [← Ny290.out] at ho; have n0_ := Aside0.mk (Kd.R_over' (by (with_reducible repeat (first | apply Kd.R_alloc | apply Kd.R_drewN | apply Kd.R_drew)); exact HO_5.out) (Kd.R_typed (by (with_reducible repeat (first | apply Kd.R_alloc | apply Kd.R_drewN | apply Kd.R_drew)); exact HO284.out)) (by decide) hg); have n1_ := Aside0.mk (blk_grown (g := gb281) (o := .cells #[.int .i64 ((rd_T40 t274 x10_2).f0), .int .i64 ((rd_T40 t274 x10_2).f1), .string ((rd_T40 t274 x10_2).f2)] 40 (0, 0)) (by (with_reducible repeat (first | refine blk_drewN ?_ _ | refine blk_drew ?_ | refine blk_alloc ?_ _)); exact BK281.out) hg (Kd.R_ne HO284.out BK281.out (by decide))); have n2_ := Aside0.mk (hb); have n3_ := Aside0.mk (ho); clear HO_5; clear BK281; clear HB; clear HO284; have HO_5 := n0_; have BK281 := n1_; have HB := n2_; have HO292 := n3_; clear n0_ n1_ n2_ n3_; clear ho hb hg hat)); try go_wp2_with (first | (at_builtin; refine print_append_str (w0 := w) w.heap.size rfl (.tmp 121) _ 33 9 5 rfl Tryd.underlying33 Tryd.underlying9 info5 u9 x9_2 ((rd_T40 t274 x10_2).f2) rfl rfl ?aO ?aB ?aS ?aL ?_; (case aB => exact (by repeat (first | (with_reducible first | exact HB.out | apply below_alloc | apply pw_below_drewN | apply below_drew1 | refine below_set ?_ GE281.out) | exact HB.out))); (case aO => exact (Kd.own_of_R (by (with_reducible repeat (first | apply Kd.R_alloc | apply Kd.R_drewN | apply Kd.R_drew)); exact HO_9.out))); (case aS => exact (below_size (by repeat (first | (with_reducible first | exact HB.out | apply below_alloc | apply pw_below_drewN | apply below_drew1 | refine below_set ?_ GE281.out) | exact HB.out)))); (case aL => have := LMc38.out; omega); intro v283 w52 ho0 hb hg; have ho := Kd.R_of_own (h1 := fun _ => rfl) (ok := fun _ => True) ho0 (fun _ _ => trivial); clear ho0; have hat := True.intro; rw [← Ny282.out] at ho; change Kd.R (Kd.int .u8) 5 w52 w.heap.size (fun _ => True) v283 y282 at ho; have n0_ := Aside0.mk (Kd.R_over' (by (with_reducible repeat (first | apply Kd.R_alloc | apply Kd.R_drewN | apply Kd.R_drew)); exact HO_5.out) (Kd.R_typed (by (with_reducible repeat (first | apply Kd.R_alloc | apply Kd.R_drewN | apply Kd.R_drew)); exact HO_9.out)) (by decide) hg); have n1_ := Aside0.mk (blk_grown (g := gb281) (o := .cells #[.int .i64 ((rd_T40 t274 x10_2).f0), .int .i64 ((rd_T40 t274 x10_2).f1), .string ((rd_T40 t274 x10_2).f2)] 40 (0, 0)) (by (with_reducible repeat (first | refine blk_drewN ?_ _ | refine blk_drew ?_ | refine blk_alloc ?_ _)); exact BK281.out) hg (Kd.R_ne HO_9.out BK281.out (by decide))); have n2_ := Aside0.mk (hb); have n3_ := Aside0.mk (ho); clear HO_5; clear BK281; clear HB; clear HO_9; have HO_5 := n0_; have BK281 := n1_; have HB := n2_; have HO284 := n3_; clear n0_ n1_ n2_ n3_; clear ho hb hg hat) | ((with_reducible refine gate_builtin (b := .append) (xs := #[.tmp 138, .tmp 139]) rfl ?_); (try (refine gate_guard (by rfl) ?_; dsimp only)); at_builtin; refine Kd.R_append (Kd.int .u8) (w0 := w) w.heap.size rfl (.tmp 138) (.tmp 139) 33 5 (.int .u8 0) 1 rfl Tryd.underlying33 info5 rfl (by decide) (by omega) v283 y282 32 [.int .u8 32] (fun _ => True) (fun _ => False) rfl rfl ?aP (fun _ hk => hk.elim) ?aF ?aO ?aB ?aS ?aL ?_; (case aP => exact rfl); (case aB => exact (by repeat (first | (with_reducible first | exact HB.out | apply below_alloc | apply pw_below_drewN | apply below_drew1 | refine below_set ?_ GE281.out) | exact HB.out))); (case aF => exact (fun _ _ => trivial)); (case aO => exact (by (with_reducible repeat (first | apply Kd.R_alloc | apply Kd.R_drewN | apply Kd.R_drew)); exact HO284.out)); (case aS => exact (below_size (by repeat (first | (with_reducible first | exact HB.out | apply below_alloc | apply pw_below_drewN | apply below_drew1 | refine below_set ?_ GE281.out) | exact HB.out)))); (case aL => have := LMc50.out; omega); intro v291 w53 ho hb hg hat; rw [← Ny290.out] at ho; have n0_ := Aside0.mk (Kd.R_over' (by (with_reducible repeat (first | apply Kd.R_alloc | apply Kd.R_drewN | apply Kd.R_drew)); exact HO_5.out) (Kd.R_typed (by (with_reducible repeat (first | apply Kd.R_alloc | apply Kd.R_drewN | apply Kd.R_drew)); exact HO284.out)) (by decide) hg); have n1_ := Aside0.mk (blk_grown (g := gb281) (o := .cells #[.int .i64 ((rd_T40 t274 x10_2).f0), .int .i64 ((rd_T40 t274 x10_2).f1), .string ((rd_T40 t274 x10_2).f2)] 40 (0, 0)) (by (with_reducible repeat (first | refine blk_drewN ?_ _ | refine blk_drew ?_ | refine blk_alloc ?_ _)); exact BK281.out) hg (Kd.R_ne HO284.out BK281.out (by decide))); have n2_ := Aside0.mk (hb); have n3_ := Aside0.mk (ho); clear HO_5; clear BK281; clear HB; clear HO284; have HO_5 := n0_; have BK281 := n1_; have HB := n2_; have HO292 := n3_; clear n0_ n1_ n2_ n3_; clear ho hb hg hat)))
                                go_roundg kj18
                                case measure => have := HJ6.out; have := HK2.out; have := HJ18.out; omega
                                case rel => exact ⟨(wrap64 (((rd_T40 t274 x10_2).f1) + (((rd_T40 t274 x10_2).f2).size : Int))), (y290), (wrap64 (x10_2 + 1)), (by first | rfl | (simp; done) | (simp [*]; done) | (simp; generalize List.isEmpty _ = p_; generalize (_ == wrap64 _) = q_; cases p_ <;> cases q_ <;> rfl)), (by first | rfl | (simp; done) | (simp [*]; done) | (simp; generalize List.isEmpty _ = p_; generalize (_ == wrap64 _) = q_; cases p_ <;> cases q_ <;> rfl)), H', ⟨by have := HJ6.out; have := HK2.out; have := HJ18.out; omega⟩, ⟨by (with_reducible repeat (first | apply Kd.R_alloc | apply Kd.R_drewN | apply Kd.R_drew)); exact Kd.R_mono HO_5.out (fun _ hk => trivial)⟩, ⟨by (with_reducible repeat (first | apply Kd.R_alloc | apply Kd.R_drewN | apply Kd.R_drew)); exact HO292.out⟩, ⟨by repeat (first | (with_reducible first | exact HB.out | apply below_alloc | apply pw_below_drewN | apply below_drew1 | refine below_set ?_ GE281.out) | exact HB.out)⟩⟩
                              · rw [if_neg c50] at H
                                exact absurd H (by simp)
                          · rw [if_neg c38] at H
                            exact absurd H (by simp)
                  · rw [if_neg c18] at H
                    exact absurd H (by simp)
                · rw [if_neg c17] at H
                  have c17b0 : decide (x10_2 < (t274.length : Int)) = false := decide_eq_false c17
                  clear c17
                  replace H := Option.bind_eq_some_iff.mp H
                  obtain ⟨⟨t293, t294, t295⟩, A540, H⟩ := H
                  replace H : (if ((strOfNums x9_2).size : Int) > 65536 then (some (t295 == 2)) else (if t295 = 0 then ((sigillaw4_kinds.f k2 t274 t293).bind fun t298 => (some t298)) else (some false))) = some r := H
                  have A54 := Aside0.mk A540
                  clear A540
                  by_cases c55 : ((strOfNums x9_2).size : Int) > 65536
                  · rw [if_pos c55] at H
                    have c55b0 : decide (65536 < ((strOfNums x9_2).size : Int)) = true := decide_eq_true c55
                    have c55b1 : decide (65536 < (strOfNums x9_2).size) = true := decide_eq_true (by omega)
                    clear c55
                    obtain rfl := Option.some.inj H
                    obtain ⟨Ao56, co56, eo56⟩ := Kd.R_slice HO_5.out
                    subst eo56
                    have hcv57 := own_string (P := Tryd.prog) Tryd.underlying33 Tryd.underlying5 Tryd.underlying9 (Kd.own_of_R HO_9.out)
                    go_wp2_with (first | (go_at_call 21; (with_reducible refine (scan_Tokens.calls k2 (strOfNums x9_2) t293 t294 t295 _ A54.out (LaidW.below HL.out (by repeat (first | (with_reducible first | exact HB.out | apply below_alloc | apply pw_below_drewN | apply below_drew1) | exact HB.out | exact Below.refl _ _)))).mono ?_); rintro e w58 ⟨v296, rfl, ho0, hb⟩; have n0_ := Aside0.mk (Kd.R_elder' (by (with_reducible repeat (first | apply Kd.R_alloc | apply Kd.R_drewN | apply Kd.R_drew)); exact HO_5.out) (Kd.R_base ho0) hb); have n1_ := Aside0.mk (Kd.R_below (by (with_reducible repeat (first | apply Kd.R_alloc | apply Kd.R_drewN | apply Kd.R_drew)); exact HO_9.out) hb); have n2_ := Aside0.mk (Kd.R_lower (Kd.R_new' ho0 (Kd.R_lt (by (with_reducible repeat (first | apply Kd.R_alloc | apply Kd.R_drewN | apply Kd.R_drew)); exact HO_5.out))) (below_size (by repeat (first | (with_reducible first | exact HB.out | apply below_alloc | apply pw_below_drewN | apply below_drew1) | exact HB.out)))); have n3_ := Aside0.mk (below_step (by repeat (first | (with_reducible first | exact HB.out | apply below_alloc | apply pw_below_drewN | apply below_drew1) | exact HB.out)) hb); clear HO_5; clear HO_9; clear HB; have HO_5 := n0_; have HO_9 := n1_; have HO297 := n2_; have HB := n3_; clear n0_ n1_ n2_ n3_; (try clear hb); (try clear hb2); (try clear hk); (try clear hi); (try clear ho0)))
                    repeat (go_quiet (first | (go_at_call 21; (with_reducible refine (scan_Tokens.calls k2 (strOfNums x9_2) t293 t294 t295 _ A54.out (LaidW.below HL.out (by repeat (first | (with_reducible first | exact HB.out | apply below_alloc | apply pw_below_drewN | apply below_drew1) | exact HB.out | exact Below.refl _ _)))).mono ?_); rintro e w58 ⟨v296, rfl, ho0, hb⟩; have n0_ := Aside0.mk (Kd.R_elder' (by (with_reducible repeat (first | apply Kd.R_alloc | apply Kd.R_drewN | apply Kd.R_drew)); exact HO_5.out) (Kd.R_base ho0) hb); have n1_ := Aside0.mk (Kd.R_below (by (with_reducible repeat (first | apply Kd.R_alloc | apply Kd.R_drewN | apply Kd.R_drew)); exact HO_9.out) hb); have n2_ := Aside0.mk (Kd.R_lower (Kd.R_new' ho0 (Kd.R_lt (by (with_reducible repeat (first | apply Kd.R_alloc | apply Kd.R_drewN | apply Kd.R_drew)); exact HO_5.out))) (below_size (by repeat (first | (with_reducible first | exact HB.out | apply below_alloc | apply pw_below_drewN | apply below_drew1) | exact HB.out)))); have n3_ := Aside0.mk (below_step (by repeat (first | (with_reducible first | exact HB.out | apply below_alloc | apply pw_below_drewN | apply below_drew1) | exact HB.out)) hb); clear HO_5; clear HO_9; clear HB; have HO_5 := n0_; have HO_9 := n1_; have HO297 := n2_; have HB := n3_; clear n0_ n1_ n2_ n3_; (try clear hb); (try clear hb2); (try clear hk); (try clear hi); (try clear ho0))); try go_wp2_with (first | (go_at_call 21; (with_reducible refine (scan_Tokens.calls k2 (strOfNums x9_2) t293 t294 t295 _ A54.out (LaidW.below HL.out (by repeat (first | (with_reducible first | exact HB.out | apply below_alloc | apply pw_below_drewN | apply below_drew1) | exact HB.out | exact Below.refl _ _)))).mono ?_); rintro e w58 ⟨v296, rfl, ho0, hb⟩; have n0_ := Aside0.mk (Kd.R_elder' (by (with_reducible repeat (first | apply Kd.R_alloc | apply Kd.R_drewN | apply Kd.R_drew)); exact HO_5.out) (Kd.R_base ho0) hb); have n1_ := Aside0.mk (Kd.R_below (by (with_reducible repeat (first | apply Kd.R_alloc | apply Kd.R_drewN | apply Kd.R_drew)); exact HO_9.out) hb); have n2_ := Aside0.mk (Kd.R_lower (Kd.R_new' ho0 (Kd.R_lt (by (with_reducible repeat (first | apply Kd.R_alloc | apply Kd.R_drewN | apply Kd.R_drew)); exact HO_5.out))) (below_size (by repeat (first | (with_reducible first | exact HB.out | apply below_alloc | apply pw_below_drewN | apply below_drew1) | exact HB.out)))); have n3_ := Aside0.mk (below_step (by repeat (first | (with_reducible first | exact HB.out | apply below_alloc | apply pw_below_drewN | apply below_drew1) | exact HB.out)) hb); clear HO_5; clear HO_9; clear HB; have HO_5 := n0_; have HO_9 := n1_; have HO297 := n2_; have HB := n3_; clear n0_ n1_ n2_ n3_; (try clear hb); (try clear hb2); (try clear hk); (try clear hi); (try clear ho0))))
                    go_ret
                    exact ⟨by first | rfl | (simp [errW_none, errW_some] <;> rfl) | (simp [*, errW_none, errW_some] <;> rfl), by repeat (first | (with_reducible first | exact HB.out | apply below_alloc | apply pw_below_drewN | apply below_drew1) | exact HB.out)⟩
                  · rw [if_neg c55] at H
                    have c55b0 : decide (65536 < ((strOfNums x9_2).size : Int)) = false := decide_eq_false c55
                    have c55b1 : decide (65536 < (strOfNums x9_2).size) = false := decide_eq_false (by omega)
                    clear c55
                    by_cases c59 : t295 = 0
                    · rw [if_pos c59] at H
                      have c59b0 : (t295 == 0) = true := beq_iff_eq.mpr c59
                      have c59b1 : (t295 != 0) = false := bne_eq_false_iff_eq.mpr c59
                      clear c59
                      replace H := Option.bind_eq_some_iff.mp H
                      obtain ⟨t298, A600, H⟩ := H
                      replace H : (some t298) = some r := H
                      have A60 := Aside0.mk A600
                      clear A600
                      obtain rfl := Option.some.inj H
                      obtain ⟨Ao61, co61, eo61⟩ := Kd.R_slice HO_5.out
                      subst eo61
                      have hcv62 := own_string (P := Tryd.prog) Tryd.underlying33 Tryd.underlying5 Tryd.underlying9 (Kd.own_of_R HO_9.out)
                      go_wp2_with (first | (go_at_call 21; (with_reducible refine (scan_Tokens.calls k2 (strOfNums x9_2) t293 t294 t295 _ A54.out (LaidW.below HL.out (by repeat (first | (with_reducible first | exact HB.out | apply below_alloc | apply pw_below_drewN | apply below_drew1) | exact HB.out | exact Below.refl _ _)))).mono ?_); rintro e w63 ⟨v296, rfl, ho0, hb⟩; have n0_ := Aside0.mk (Kd.R_elder' (by (with_reducible repeat (first | apply Kd.R_alloc | apply Kd.R_drewN | apply Kd.R_drew)); exact HO_5.out) (Kd.R_base ho0) hb); have n1_ := Aside0.mk (Kd.R_below (by (with_reducible repeat (first | apply Kd.R_alloc | apply Kd.R_drewN | apply Kd.R_drew)); exact HO_9.out) hb); have n2_ := Aside0.mk (Kd.R_lower (Kd.R_new' ho0 (Kd.R_lt (by (with_reducible repeat (first | apply Kd.R_alloc | apply Kd.R_drewN | apply Kd.R_drew)); exact HO_5.out))) (below_size (by repeat (first | (with_reducible first | exact HB.out | apply below_alloc | apply pw_below_drewN | apply below_drew1) | exact HB.out)))); have n3_ := Aside0.mk (below_step (by repeat (first | (with_reducible first | exact HB.out | apply below_alloc | apply pw_below_drewN | apply below_drew1) | exact HB.out)) hb); clear HO_5; clear HO_9; clear HB; have HO_5 := n0_; have HO_9 := n1_; have HO297 := n2_; have HB := n3_; clear n0_ n1_ n2_ n3_; (try clear hb); (try clear hb2); (try clear hk); (try clear hi); (try clear ho0); obtain ⟨Ao64, co64, eo64⟩ := Kd.R_slice HO297.out; subst eo64) | (go_at_call 23; (with_reducible refine (sigillaw4_kinds.calls k2 _ _ t274 _ _ t293 t298 _ ?side1 ?side2 ?side3 ?side4 A60.out).mono ?_); (case side1 => repeat (first | exact (Kd.R_reads' HO_5.out).2.2 | (with_reducible refine Kd.C_alloc ?_ _) | (with_reducible refine Kd.C_drewN ?_ _) | (with_reducible refine Kd.C_drew ?_))); (case side2 => exact (Kd.R_reads' HO_5.out).2.1); (case side3 => repeat (first | exact (Kd.R_reads' HO297.out).2.2 | (with_reducible refine Kd.C_alloc ?_ _) | (with_reducible refine Kd.C_drewN ?_ _) | (with_reducible refine Kd.C_drew ?_))); (case side4 => exact (Kd.R_reads' HO297.out).2.1); rintro e w' ⟨rfl, ⟨nd, rfl⟩⟩; (try first | exact ⟨rfl, _, World.drewN_drewN _ _ _⟩ | exact ⟨rfl, _, Eq.trans (World.drewN_drewN _ _ _) (congrArg (World.drewN _) (Nat.add_assoc _ _ _))⟩)))
                      repeat (go_quiet (first | (go_at_call 21; (with_reducible refine (scan_Tokens.calls k2 (strOfNums x9_2) t293 t294 t295 _ A54.out (LaidW.below HL.out (by repeat (first | (with_reducible first | exact HB.out | apply below_alloc | apply pw_below_drewN | apply below_drew1) | exact HB.out | exact Below.refl _ _)))).mono ?_); rintro e w63 ⟨v296, rfl, ho0, hb⟩; have n0_ := Aside0.mk (Kd.R_elder' (by (with_reducible repeat (first | apply Kd.R_alloc | apply Kd.R_drewN | apply Kd.R_drew)); exact HO_5.out) (Kd.R_base ho0) hb); have n1_ := Aside0.mk (Kd.R_below (by (with_reducible repeat (first | apply Kd.R_alloc | apply Kd.R_drewN | apply Kd.R_drew)); exact HO_9.out) hb); have n2_ := Aside0.mk (Kd.R_lower (Kd.R_new' ho0 (Kd.R_lt (by (with_reducible repeat (first | apply Kd.R_alloc | apply Kd.R_drewN | apply Kd.R_drew)); exact HO_5.out))) (below_size (by repeat (first | (with_reducible first | exact HB.out | apply below_alloc | apply pw_below_drewN | apply below_drew1) | exact HB.out)))); have n3_ := Aside0.mk (below_step (by repeat (first | (with_reducible first | exact HB.out | apply below_alloc | apply pw_below_drewN | apply below_drew1) | exact HB.out)) hb); clear HO_5; clear HO_9; clear HB; have HO_5 := n0_; have HO_9 := n1_; have HO297 := n2_; have HB := n3_; clear n0_ n1_ n2_ n3_; (try clear hb); (try clear hb2); (try clear hk); (try clear hi); (try clear ho0); obtain ⟨Ao64, co64, eo64⟩ := Kd.R_slice HO297.out; subst eo64) | (go_at_call 23; (with_reducible refine (sigillaw4_kinds.calls k2 _ _ t274 _ _ t293 t298 _ ?side1 ?side2 ?side3 ?side4 A60.out).mono ?_); (case side1 => repeat (first | exact (Kd.R_reads' HO_5.out).2.2 | (with_reducible refine Kd.C_alloc ?_ _) | (with_reducible refine Kd.C_drewN ?_ _) | (with_reducible refine Kd.C_drew ?_))); (case side2 => exact (Kd.R_reads' HO_5.out).2.1); (case side3 => repeat (first | exact (Kd.R_reads' HO297.out).2.2 | (with_reducible refine Kd.C_alloc ?_ _) | (with_reducible refine Kd.C_drewN ?_ _) | (with_reducible refine Kd.C_drew ?_))); (case side4 => exact (Kd.R_reads' HO297.out).2.1); rintro e w' ⟨rfl, ⟨nd, rfl⟩⟩; (try first | exact ⟨rfl, _, World.drewN_drewN _ _ _⟩ | exact ⟨rfl, _, Eq.trans (World.drewN_drewN _ _ _) (congrArg (World.drewN _) (Nat.add_assoc _ _ _))⟩))); try go_wp2_with (first | (go_at_call 21; (with_reducible refine (scan_Tokens.calls k2 (strOfNums x9_2) t293 t294 t295 _ A54.out (LaidW.below HL.out (by repeat (first | (with_reducible first | exact HB.out | apply below_alloc | apply pw_below_drewN | apply below_drew1) | exact HB.out | exact Below.refl _ _)))).mono ?_); rintro e w63 ⟨v296, rfl, ho0, hb⟩; have n0_ := Aside0.mk (Kd.R_elder' (by (with_reducible repeat (first | apply Kd.R_alloc | apply Kd.R_drewN | apply Kd.R_drew)); exact HO_5.out) (Kd.R_base ho0) hb); have n1_ := Aside0.mk (Kd.R_below (by (with_reducible repeat (first | apply Kd.R_alloc | apply Kd.R_drewN | apply Kd.R_drew)); exact HO_9.out) hb); have n2_ := Aside0.mk (Kd.R_lower (Kd.R_new' ho0 (Kd.R_lt (by (with_reducible repeat (first | apply Kd.R_alloc | apply Kd.R_drewN | apply Kd.R_drew)); exact HO_5.out))) (below_size (by repeat (first | (with_reducible first | exact HB.out | apply below_alloc | apply pw_below_drewN | apply below_drew1) | exact HB.out)))); have n3_ := Aside0.mk (below_step (by repeat (first | (with_reducible first | exact HB.out | apply below_alloc | apply pw_below_drewN | apply below_drew1) | exact HB.out)) hb); clear HO_5; clear HO_9; clear HB; have HO_5 := n0_; have HO_9 := n1_; have HO297 := n2_; have HB := n3_; clear n0_ n1_ n2_ n3_; (try clear hb); (try clear hb2); (try clear hk); (try clear hi); (try clear ho0); obtain ⟨Ao64, co64, eo64⟩ := Kd.R_slice HO297.out; subst eo64) | (go_at_call 23; (with_reducible refine (sigillaw4_kinds.calls k2 _ _ t274 _ _ t293 t298 _ ?side1 ?side2 ?side3 ?side4 A60.out).mono ?_); (case side1 => repeat (first | exact (Kd.R_reads' HO_5.out).2.2 | (with_reducible refine Kd.C_alloc ?_ _) | (with_reducible refine Kd.C_drewN ?_ _) | (with_reducible refine Kd.C_drew ?_))); (case side2 => exact (Kd.R_reads' HO_5.out).2.1); (case side3 => repeat (first | exact (Kd.R_reads' HO297.out).2.2 | (with_reducible refine Kd.C_alloc ?_ _) | (with_reducible refine Kd.C_drewN ?_ _) | (with_reducible refine Kd.C_drew ?_))); (case side4 => exact (Kd.R_reads' HO297.out).2.1); rintro e w' ⟨rfl, ⟨nd, rfl⟩⟩; (try first | exact ⟨rfl, _, World.drewN_drewN _ _ _⟩ | exact ⟨rfl, _, Eq.trans (World.drewN_drewN _ _ _) (congrArg (World.drewN _) (Nat.add_assoc _ _ _))⟩))))
                      go_ret
                      exact ⟨by first | rfl | (simp [errW_none, errW_some] <;> rfl) | (simp [*, errW_none, errW_some] <;> rfl), by repeat (first | (with_reducible first | exact HB.out | apply below_alloc | apply pw_below_drewN | apply below_drew1) | exact HB.out)⟩
                    · rw [if_neg c59] at H
                      have c59b0 : (t295 == 0) = false := beq_eq_false_iff_ne.mpr c59
                      have c59b1 : (t295 != 0) = true := bne_iff_ne.mpr c59
                      obtain rfl := Option.some.inj H
                      obtain ⟨Ao65, co65, eo65⟩ := Kd.R_slice HO_5.out
                      subst eo65
                      have hcv66 := own_string (P := Tryd.prog) Tryd.underlying33 Tryd.underlying5 Tryd.underlying9 (Kd.own_of_R HO_9.out)
                      go_wp2_with (first | (go_at_call 21; (with_reducible refine (scan_Tokens.calls k2 (strOfNums x9_2) t293 t294 t295 _ A54.out (LaidW.below HL.out (by repeat (first | (with_reducible first | exact HB.out | apply below_alloc | apply pw_below_drewN | apply below_drew1) | exact HB.out | exact Below.refl _ _)))).mono ?_); rintro e w67 ⟨v296, rfl, ho0, hb⟩; have n0_ := Aside0.mk (Kd.R_elder' (by (with_reducible repeat (first | apply Kd.R_alloc | apply Kd.R_drewN | apply Kd.R_drew)); exact HO_5.out) (Kd.R_base ho0) hb); have n1_ := Aside0.mk (Kd.R_below (by (with_reducible repeat (first | apply Kd.R_alloc | apply Kd.R_drewN | apply Kd.R_drew)); exact HO_9.out) hb); have n2_ := Aside0.mk (Kd.R_lower (Kd.R_new' ho0 (Kd.R_lt (by (with_reducible repeat (first | apply Kd.R_alloc | apply Kd.R_drewN | apply Kd.R_drew)); exact HO_5.out))) (below_size (by repeat (first | (with_reducible first | exact HB.out | apply below_alloc | apply pw_below_drewN | apply below_drew1) | exact HB.out)))); have n3_ := Aside0.mk (below_step (by repeat (first | (with_reducible first | exact HB.out | apply below_alloc | apply pw_below_drewN | apply below_drew1) | exact HB.out)) hb); clear HO_5; clear HO_9; clear HB; have HO_5 := n0_; have HO_9 := n1_; have HO297 := n2_; have HB := n3_; clear n0_ n1_ n2_ n3_; (try clear hb); (try clear hb2); (try clear hk); (try clear hi); (try clear ho0)))
                      repeat (go_quiet (first | (go_at_call 21; (with_reducible refine (scan_Tokens.calls k2 (strOfNums x9_2) t293 t294 t295 _ A54.out (LaidW.below HL.out (by repeat (first | (with_reducible first | exact HB.out | apply below_alloc | apply pw_below_drewN | apply below_drew1) | exact HB.out | exact Below.refl _ _)))).mono ?_); rintro e w67 ⟨v296, rfl, ho0, hb⟩; have n0_ := Aside0.mk (Kd.R_elder' (by (with_reducible repeat (first | apply Kd.R_alloc | apply Kd.R_drewN | apply Kd.R_drew)); exact HO_5.out) (Kd.R_base ho0) hb); have n1_ := Aside0.mk (Kd.R_below (by (with_reducible repeat (first | apply Kd.R_alloc | apply Kd.R_drewN | apply Kd.R_drew)); exact HO_9.out) hb); have n2_ := Aside0.mk (Kd.R_lower (Kd.R_new' ho0 (Kd.R_lt (by (with_reducible repeat (first | apply Kd.R_alloc | apply Kd.R_drewN | apply Kd.R_drew)); exact HO_5.out))) (below_size (by repeat (first | (with_reducible first | exact HB.out | apply below_alloc | apply pw_below_drewN | apply below_drew1) | exact HB.out)))); have n3_ := Aside0.mk (below_step (by repeat (first | (with_reducible first | exact HB.out | apply below_alloc | apply pw_below_drewN | apply below_drew1) | exact HB.out)) hb); clear HO_5; clear HO_9; clear HB; have HO_5 := n0_; have HO_9 := n1_; have HO297 := n2_; have HB := n3_; clear n0_ n1_ n2_ n3_; (try clear hb); (try clear hb2); (try clear hk); (try clear hi); (try clear ho0))); try go_wp2_with (first | (go_at_call 21; (with_reducible refine (scan_Tokens.calls k2 (strOfNums x9_2) t293 t294 t295 _ A54.out (LaidW.below HL.out (by repeat (first | (with_reducible first | exact HB.out | apply below_alloc | apply pw_below_drewN | apply below_drew1) | exact HB.out | exact Below.refl _ _)))).mono ?_); rintro e w67 ⟨v296, rfl, ho0, hb⟩; have n0_ := Aside0.mk (Kd.R_elder' (by (with_reducible repeat (first | apply Kd.R_alloc | apply Kd.R_drewN | apply Kd.R_drew)); exact HO_5.out) (Kd.R_base ho0) hb); have n1_ := Aside0.mk (Kd.R_below (by (with_reducible repeat (first | apply Kd.R_alloc | apply Kd.R_drewN | apply Kd.R_drew)); exact HO_9.out) hb); have n2_ := Aside0.mk (Kd.R_lower (Kd.R_new' ho0 (Kd.R_lt (by (with_reducible repeat (first | apply Kd.R_alloc | apply Kd.R_drewN | apply Kd.R_drew)); exact HO_5.out))) (below_size (by repeat (first | (with_reducible first | exact HB.out | apply below_alloc | apply pw_below_drewN | apply below_drew1) | exact HB.out)))); have n3_ := Aside0.mk (below_step (by repeat (first | (with_reducible first | exact HB.out | apply below_alloc | apply pw_below_drewN | apply below_drew1) | exact HB.out)) hb); clear HO_5; clear HO_9; clear HB; have HO_5 := n0_; have HO_9 := n1_; have HO297 := n2_; have HB := n3_; clear n0_ n1_ n2_ n3_; (try clear hb); (try clear hb2); (try clear hk); (try clear hi); (try clear ho0))))
                      go_ret
                      exact ⟨by first | rfl | (simp [errW_none, errW_some] <;> rfl) | (simp [*, errW_none, errW_some] <;> rfl), by repeat (first | (with_reducible first | exact HB.out | apply below_alloc | apply pw_below_drewN | apply below_drew1) | exact HB.out)⟩
    · rw [if_neg c6] at H
      have c6b0 : (t276 == 0) = false := beq_eq_false_iff_ne.mpr c6
      have c6b1 : (t276 != 0) = true := bne_iff_ne.mpr c6
      by_cases c68 : (t274.length : Int) = 0
      · rw [if_pos c68] at H
        have c68b0 : ((t274.length : Int) == 0) = true := beq_iff_eq.mpr c68
        have c68b1 : ((t274.length : Int) != 0) = false := bne_eq_false_iff_eq.mpr c68
        clear c68
        by_cases c69 : t275 ≥ 0
        · rw [if_pos c69] at H
          have c69b0 : decide (0 ≤ t275) = true := decide_eq_true c69
          clear c69
          obtain rfl := Option.some.inj H
          go_enter Tryd.func8, Tryd.ntmps8
          go_wp2_with (first | (go_at_call 19; (with_reducible refine (sigillaw4_head.calls k  true _ A3.out (LaidW.below HL.out (by repeat (first | (with_reducible first | exact HB.out | apply below_alloc | apply pw_below_drewN | apply below_drew1) | exact HB.out | exact Below.refl _ _)))).mono ?_); rintro e w70 ⟨rfl, hb⟩; have n0_ := Aside0.mk (below_step (by repeat (first | (with_reducible first | exact HB.out | apply below_alloc | apply pw_below_drewN | apply below_drew1) | exact HB.out)) hb); clear HB; have HB := n0_; clear n0_; (try clear hb); (try clear hb2); (try clear hk); (try clear hi)) | (go_at_call 21; (with_reducible refine (scan_Tokens.calls k a0 t274 t275 t276 _ A5.out (LaidW.below HL.out (by repeat (first | (with_reducible first | exact HB.out | apply below_alloc | apply pw_below_drewN | apply below_drew1) | exact HB.out | exact Below.refl _ _)))).mono ?_); rintro e w71 ⟨v277, rfl, ho0, hb⟩; have n0_ := Aside0.mk (Kd.R_lower ho0 (below_size (by repeat (first | (with_reducible first | exact HB.out | apply below_alloc | apply pw_below_drewN | apply below_drew1) | exact HB.out)))); have n1_ := Aside0.mk (below_step (by repeat (first | (with_reducible first | exact HB.out | apply below_alloc | apply pw_below_drewN | apply below_drew1) | exact HB.out)) hb); clear HB; have HO278 := n0_; have HB := n1_; clear n0_ n1_; (try clear hb); (try clear hb2); (try clear hk); (try clear hi); (try clear ho0); obtain ⟨Ao72, co72, eo72⟩ := Kd.R_slice HO278.out; subst eo72))
          repeat (go_quiet (first | (go_at_call 19; (with_reducible refine (sigillaw4_head.calls k  true _ A3.out (LaidW.below HL.out (by repeat (first | (with_reducible first | exact HB.out | apply below_alloc | apply pw_below_drewN | apply below_drew1) | exact HB.out | exact Below.refl _ _)))).mono ?_); rintro e w70 ⟨rfl, hb⟩; have n0_ := Aside0.mk (below_step (by repeat (first | (with_reducible first | exact HB.out | apply below_alloc | apply pw_below_drewN | apply below_drew1) | exact HB.out)) hb); clear HB; have HB := n0_; clear n0_; (try clear hb); (try clear hb2); (try clear hk); (try clear hi)) | (go_at_call 21; (with_reducible refine (scan_Tokens.calls k a0 t274 t275 t276 _ A5.out (LaidW.below HL.out (by repeat (first | (with_reducible first | exact HB.out | apply below_alloc | apply pw_below_drewN | apply below_drew1) | exact HB.out | exact Below.refl _ _)))).mono ?_); rintro e w71 ⟨v277, rfl, ho0, hb⟩; have n0_ := Aside0.mk (Kd.R_lower ho0 (below_size (by repeat (first | (with_reducible first | exact HB.out | apply below_alloc | apply pw_below_drewN | apply below_drew1) | exact HB.out)))); have n1_ := Aside0.mk (below_step (by repeat (first | (with_reducible first | exact HB.out | apply below_alloc | apply pw_below_drewN | apply below_drew1) | exact HB.out)) hb); clear HB; have HO278 := n0_; have HB := n1_; clear n0_ n1_; (try clear hb); (try clear hb2); (try clear hk); (try clear hi); (try clear ho0); obtain ⟨Ao72, co72, eo72⟩ := Kd.R_slice HO278.out; subst eo72)); try go_wp2_with (first | (go_at_call 19; (with_reducible refine (sigillaw4_head.calls k  true _ A3.out (LaidW.below HL.out (by repeat (first | (with_reducible first | exact HB.out | apply below_alloc | apply pw_below_drewN | apply below_drew1) | exact HB.out | exact Below.refl _ _)))).mono ?_); rintro e w70 ⟨rfl, hb⟩; have n0_ := Aside0.mk (below_step (by repeat (first | (with_reducible first | exact HB.out | apply below_alloc | apply pw_below_drewN | apply below_drew1) | exact HB.out)) hb); clear HB; have HB := n0_; clear n0_; (try clear hb); (try clear hb2); (try clear hk); (try clear hi)) | (go_at_call 21; (with_reducible refine (scan_Tokens.calls k a0 t274 t275 t276 _ A5.out (LaidW.below HL.out (by repeat (first | (with_reducible first | exact HB.out | apply below_alloc | apply pw_below_drewN | apply below_drew1) | exact HB.out | exact Below.refl _ _)))).mono ?_); rintro e w71 ⟨v277, rfl, ho0, hb⟩; have n0_ := Aside0.mk (Kd.R_lower ho0 (below_size (by repeat (first | (with_reducible first | exact HB.out | apply below_alloc | apply pw_below_drewN | apply below_drew1) | exact HB.out)))); have n1_ := Aside0.mk (below_step (by repeat (first | (with_reducible first | exact HB.out | apply below_alloc | apply pw_below_drewN | apply below_drew1) | exact HB.out)) hb); clear HB; have HO278 := n0_; have HB := n1_; clear n0_ n1_; (try clear hb); (try clear hb2); (try clear hk); (try clear hi); (try clear ho0); obtain ⟨Ao72, co72, eo72⟩ := Kd.R_slice HO278.out; subst eo72)))
          go_ret
          exact ⟨by first | rfl | (simp [errW_none, errW_some] <;> rfl) | (simp [*, errW_none, errW_some] <;> rfl), by repeat (first | (with_reducible first | exact HB.out | apply below_alloc | apply pw_below_drewN | apply below_drew1) | exact HB.out)⟩
        · rw [if_neg c69] at H
          have c69b0 : decide (0 ≤ t275) = false := decide_eq_false c69
          clear c69
          obtain rfl := Option.some.inj H
          go_enter Tryd.func8, Tryd.ntmps8
          go_wp2_with (first | (go_at_call 19; (with_reducible refine (sigillaw4_head.calls k  true _ A3.out (LaidW.below HL.out (by repeat (first | (with_reducible first | exact HB.out | apply below_alloc | apply pw_below_drewN | apply below_drew1) | exact HB.out | exact Below.refl _ _)))).mono ?_); rintro e w73 ⟨rfl, hb⟩; have n0_ := Aside0.mk (below_step (by repeat (first | (with_reducible first | exact HB.out | apply below_alloc | apply pw_below_drewN | apply below_drew1) | exact HB.out)) hb); clear HB; have HB := n0_; clear n0_; (try clear hb); (try clear hb2); (try clear hk); (try clear hi)) | (go_at_call 21; (with_reducible refine (scan_Tokens.calls k a0 t274 t275 t276 _ A5.out (LaidW.below HL.out (by repeat (first | (with_reducible first | exact HB.out | apply below_alloc | apply pw_below_drewN | apply below_drew1) | exact HB.out | exact Below.refl _ _)))).mono ?_); rintro e w74 ⟨v277, rfl, ho0, hb⟩; have n0_ := Aside0.mk (Kd.R_lower ho0 (below_size (by repeat (first | (with_reducible first | exact HB.out | apply below_alloc | apply pw_below_drewN | apply below_drew1) | exact HB.out)))); have n1_ := Aside0.mk (below_step (by repeat (first | (with_reducible first | exact HB.out | apply below_alloc | apply pw_below_drewN | apply below_drew1) | exact HB.out)) hb); clear HB; have HO278 := n0_; have HB := n1_; clear n0_ n1_; (try clear hb); (try clear hb2); (try clear hk); (try clear hi); (try clear ho0); obtain ⟨Ao75, co75, eo75⟩ := Kd.R_slice HO278.out; subst eo75))
          repeat (go_quiet (first | (go_at_call 19; (with_reducible refine (sigillaw4_head.calls k  true _ A3.out (LaidW.below HL.out (by repeat (first | (with_reducible first | exact HB.out | apply below_alloc | apply pw_below_drewN | apply below_drew1) | exact HB.out | exact Below.refl _ _)))).mono ?_); rintro e w73 ⟨rfl, hb⟩; have n0_ := Aside0.mk (below_step (by repeat (first | (with_reducible first | exact HB.out | apply below_alloc | apply pw_below_drewN | apply below_drew1) | exact HB.out)) hb); clear HB; have HB := n0_; clear n0_; (try clear hb); (try clear hb2); (try clear hk); (try clear hi)) | (go_at_call 21; (with_reducible refine (scan_Tokens.calls k a0 t274 t275 t276 _ A5.out (LaidW.below HL.out (by repeat (first | (with_reducible first | exact HB.out | apply below_alloc | apply pw_below_drewN | apply below_drew1) | exact HB.out | exact Below.refl _ _)))).mono ?_); rintro e w74 ⟨v277, rfl, ho0, hb⟩; have n0_ := Aside0.mk (Kd.R_lower ho0 (below_size (by repeat (first | (with_reducible first | exact HB.out | apply below_alloc | apply pw_below_drewN | apply below_drew1) | exact HB.out)))); have n1_ := Aside0.mk (below_step (by repeat (first | (with_reducible first | exact HB.out | apply below_alloc | apply pw_below_drewN | apply below_drew1) | exact HB.out)) hb); clear HB; have HO278 := n0_; have HB := n1_; clear n0_ n1_; (try clear hb); (try clear hb2); (try clear hk); (try clear hi); (try clear ho0); obtain ⟨Ao75, co75, eo75⟩ := Kd.R_slice HO278.out; subst eo75)); try go_wp2_with (first | (go_at_call 19; (with_reducible refine (sigillaw4_head.calls k  true _ A3.out (LaidW.below HL.out (by repeat (first | (with_reducible first | exact HB.out | apply below_alloc | apply pw_below_drewN | apply below_drew1) | exact HB.out | exact Below.refl _ _)))).mono ?_); rintro e w73 ⟨rfl, hb⟩; have n0_ := Aside0.mk (below_step (by repeat (first | (with_reducible first | exact HB.out | apply below_alloc | apply pw_below_drewN | apply below_drew1) | exact HB.out)) hb); clear HB; have HB := n0_; clear n0_; (try clear hb); (try clear hb2); (try clear hk); (try clear hi)) | (go_at_call 21; (with_reducible refine (scan_Tokens.calls k a0 t274 t275 t276 _ A5.out (LaidW.below HL.out (by repeat (first | (with_reducible first | exact HB.out | apply below_alloc | apply pw_below_drewN | apply below_drew1) | exact HB.out | exact Below.refl _ _)))).mono ?_); rintro e w74 ⟨v277, rfl, ho0, hb⟩; have n0_ := Aside0.mk (Kd.R_lower ho0 (below_size (by repeat (first | (with_reducible first | exact HB.out | apply below_alloc | apply pw_below_drewN | apply below_drew1) | exact HB.out)))); have n1_ := Aside0.mk (below_step (by repeat (first | (with_reducible first | exact HB.out | apply below_alloc | apply pw_below_drewN | apply below_drew1) | exact HB.out)) hb); clear HB; have HO278 := n0_; have HB := n1_; clear n0_ n1_; (try clear hb); (try clear hb2); (try clear hk); (try clear hi); (try clear ho0); obtain ⟨Ao75, co75, eo75⟩ := Kd.R_slice HO278.out; subst eo75)))
          go_ret
          exact ⟨by first | rfl | (simp [errW_none, errW_some] <;> rfl) | (simp [*, errW_none, errW_some] <;> rfl), by repeat (first | (with_reducible first | exact HB.out | apply below_alloc | apply pw_below_drewN | apply below_drew1) | exact HB.out)⟩
      · rw [if_neg c68] at H
        have c68b0 : ((t274.length : Int) == 0) = false := beq_eq_false_iff_ne.mpr c68
        have c68b1 : ((t274.length : Int) != 0) = true := bne_iff_ne.mpr c68
        have c68b2 : ¬ (t274 = []) := fun h_ => c68 (by rw [h_]; rfl)
        obtain rfl := Option.some.inj H
        go_enter Tryd.func8, Tryd.ntmps8
        go_wp2_with (first | (go_at_call 19; (with_reducible refine (sigillaw4_head.calls k  true _ A3.out (LaidW.below HL.out (by repeat (first | (with_reducible first | exact HB.out | apply below_alloc | apply pw_below_drewN | apply below_drew1) | exact HB.out | exact Below.refl _ _)))).mono ?_); rintro e w76 ⟨rfl, hb⟩; have n0_ := Aside0.mk (below_step (by repeat (first | (with_reducible first | exact HB.out | apply below_alloc | apply pw_below_drewN | apply below_drew1) | exact HB.out)) hb); clear HB; have HB := n0_; clear n0_; (try clear hb); (try clear hb2); (try clear hk); (try clear hi)) | (go_at_call 21; (with_reducible refine (scan_Tokens.calls k a0 t274 t275 t276 _ A5.out (LaidW.below HL.out (by repeat (first | (with_reducible first | exact HB.out | apply below_alloc | apply pw_below_drewN | apply below_drew1) | exact HB.out | exact Below.refl _ _)))).mono ?_); rintro e w77 ⟨v277, rfl, ho0, hb⟩; have n0_ := Aside0.mk (Kd.R_lower ho0 (below_size (by repeat (first | (with_reducible first | exact HB.out | apply below_alloc | apply pw_below_drewN | apply below_drew1) | exact HB.out)))); have n1_ := Aside0.mk (below_step (by repeat (first | (with_reducible first | exact HB.out | apply below_alloc | apply pw_below_drewN | apply below_drew1) | exact HB.out)) hb); clear HB; have HO278 := n0_; have HB := n1_; clear n0_ n1_; (try clear hb); (try clear hb2); (try clear hk); (try clear hi); (try clear ho0); obtain ⟨Ao78, co78, eo78⟩ := Kd.R_slice HO278.out; subst eo78))
        repeat (go_quiet (first | (go_at_call 19; (with_reducible refine (sigillaw4_head.calls k  true _ A3.out (LaidW.below HL.out (by repeat (first | (with_reducible first | exact HB.out | apply below_alloc | apply pw_below_drewN | apply below_drew1) | exact HB.out | exact Below.refl _ _)))).mono ?_); rintro e w76 ⟨rfl, hb⟩; have n0_ := Aside0.mk (below_step (by repeat (first | (with_reducible first | exact HB.out | apply below_alloc | apply pw_below_drewN | apply below_drew1) | exact HB.out)) hb); clear HB; have HB := n0_; clear n0_; (try clear hb); (try clear hb2); (try clear hk); (try clear hi)) | (go_at_call 21; (with_reducible refine (scan_Tokens.calls k a0 t274 t275 t276 _ A5.out (LaidW.below HL.out (by repeat (first | (with_reducible first | exact HB.out | apply below_alloc | apply pw_below_drewN | apply below_drew1) | exact HB.out | exact Below.refl _ _)))).mono ?_); rintro e w77 ⟨v277, rfl, ho0, hb⟩; have n0_ := Aside0.mk (Kd.R_lower ho0 (below_size (by repeat (first | (with_reducible first | exact HB.out | apply below_alloc | apply pw_below_drewN | apply below_drew1) | exact HB.out)))); have n1_ := Aside0.mk (below_step (by repeat (first | (with_reducible first | exact HB.out | apply below_alloc | apply pw_below_drewN | apply below_drew1) | exact HB.out)) hb); clear HB; have HO278 := n0_; have HB := n1_; clear n0_ n1_; (try clear hb); (try clear hb2); (try clear hk); (try clear hi); (try clear ho0); obtain ⟨Ao78, co78, eo78⟩ := Kd.R_slice HO278.out; subst eo78)); try go_wp2_with (first | (go_at_call 19; (with_reducible refine (sigillaw4_head.calls k  true _ A3.out (LaidW.below HL.out (by repeat (first | (with_reducible first | exact HB.out | apply below_alloc | apply pw_below_drewN | apply below_drew1) | exact HB.out | exact Below.refl _ _)))).mono ?_); rintro e w76 ⟨rfl, hb⟩; have n0_ := Aside0.mk (below_step (by repeat (first | (with_reducible first | exact HB.out | apply below_alloc | apply pw_below_drewN | apply below_drew1) | exact HB.out)) hb); clear HB; have HB := n0_; clear n0_; (try clear hb); (try clear hb2); (try clear hk); (try clear hi)) | (go_at_call 21; (with_reducible refine (scan_Tokens.calls k a0 t274 t275 t276 _ A5.out (LaidW.below HL.out (by repeat (first | (with_reducible first | exact HB.out | apply below_alloc | apply pw_below_drewN | apply below_drew1) | exact HB.out | exact Below.refl _ _)))).mono ?_); rintro e w77 ⟨v277, rfl, ho0, hb⟩; have n0_ := Aside0.mk (Kd.R_lower ho0 (below_size (by repeat (first | (with_reducible first | exact HB.out | apply below_alloc | apply pw_below_drewN | apply below_drew1) | exact HB.out)))); have n1_ := Aside0.mk (below_step (by repeat (first | (with_reducible first | exact HB.out | apply below_alloc | apply pw_below_drewN | apply below_drew1) | exact HB.out)) hb); clear HB; have HO278 := n0_; have HB := n1_; clear n0_ n1_; (try clear hb); (try clear hb2); (try clear hk); (try clear hi); (try clear ho0); obtain ⟨Ao78, co78, eo78⟩ := Kd.R_slice HO278.out; subst eo78)))
        go_ret
        exact ⟨by first | rfl | (simp [errW_none, errW_some] <;> rfl) | (simp [*, errW_none, errW_some] <;> rfl), by repeat (first | (with_reducible first | exact HB.out | apply below_alloc | apply pw_below_drewN | apply below_drew1) | exact HB.out)⟩
  · replace c4 := Bool.eq_false_iff.mpr c4
    subst c4
    have H1 : (some false) = some r := by rw [if_neg (show ¬ (false = true) by decide)] at H; exact H
    clear H
    have H := H1
    clear H1
    obtain rfl := Option.some.inj H
    go_enter Tryd.func8, Tryd.ntmps8
    go_wp2_with (first | (go_at_call 19; (with_reducible refine (sigillaw4_head.calls k  false _ A3.out (LaidW.below HL.out (by repeat (first | (with_reducible first | exact HB.out | apply below_alloc | apply pw_below_drewN | apply below_drew1) | exact HB.out | exact Below.refl _ _)))).mono ?_); rintro e w79 ⟨rfl, hb⟩; have n0_ := Aside0.mk (below_step (by repeat (first | (with_reducible first | exact HB.out | apply below_alloc | apply pw_below_drewN | apply below_drew1) | exact HB.out)) hb); clear HB; have HB := n0_; clear n0_; (try clear hb); (try clear hb2); (try clear hk); (try clear hi)))
    repeat (go_quiet (first | (go_at_call 19; (with_reducible refine (sigillaw4_head.calls k  false _ A3.out (LaidW.below HL.out (by repeat (first | (with_reducible first | exact HB.out | apply below_alloc | apply pw_below_drewN | apply below_drew1) | exact HB.out | exact Below.refl _ _)))).mono ?_); rintro e w79 ⟨rfl, hb⟩; have n0_ := Aside0.mk (below_step (by repeat (first | (with_reducible first | exact HB.out | apply below_alloc | apply pw_below_drewN | apply below_drew1) | exact HB.out)) hb); clear HB; have HB := n0_; clear n0_; (try clear hb); (try clear hb2); (try clear hk); (try clear hi))); try go_wp2_with (first | (go_at_call 19; (with_reducible refine (sigillaw4_head.calls k  false _ A3.out (LaidW.below HL.out (by repeat (first | (with_reducible first | exact HB.out | apply below_alloc | apply pw_below_drewN | apply below_drew1) | exact HB.out | exact Below.refl _ _)))).mono ?_); rintro e w79 ⟨rfl, hb⟩; have n0_ := Aside0.mk (below_step (by repeat (first | (with_reducible first | exact HB.out | apply below_alloc | apply pw_below_drewN | apply below_drew1) | exact HB.out)) hb); clear HB; have HB := n0_; clear n0_; (try clear hb); (try clear hb2); (try clear hk); (try clear hi))))
    go_ret
    exact ⟨by first | rfl | (simp [errW_none, errW_some] <;> rfl) | (simp [*, errW_none, errW_some] <;> rfl), by repeat (first | (with_reducible first | exact HB.out | apply below_alloc | apply pw_below_drewN | apply below_drew1) | exact HB.out)⟩

/-- THE ONE PURE STATEMENT of sigillaw4_ScanPlaces: yours. -/
def sigillaw4_ScanPlaces.Pure : Prop := ∀ (a0 : ByteArray) (l1 : List Int), a0.size ≤ 140737488351232 → l1.length ≤ maxLen → l1.length * 8 ≤ 140737488351232 → (∀ x ∈ l1, (Lit.int .i64 x).wf = true) → ∃ k, sigillaw4_ScanPlaces.f k a0 l1 = some true

end Go.Proofs.YtabgnbbljjohdaaRDoor.A
