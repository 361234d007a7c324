/- Lemmas and walks for the claim; no condition beyond what each states. -/
import Derived.Test.YtbpiahpkbapijaaDoorQ6
section
namespace Go.Proofs.YtbpiahpkbapijaaDoor.J
open Go.RowKit Go.Proofs.YtbpiahpkbapijaaDoorW.PrintWords Go.Proofs.YtbpiahpkbapijaaDoorW.PrintLast Go.Proofs.YtbpiahpkbapijaaDoorW.PrintMore
attribute [local go_sem] max2_int min2_int max_two min_two max_three min_three max_four min_four
set_option linter.unusedVariables false
set_option linter.unusedSimpArgs false
mutual
def T_number.j0 : Nat → Int → Int → Bool → ByteArray → Int → Int → Int → Option (Int × ByteArray × Int × Int × Int)
 | 0, _, _, _, _, _, _, _ => none
 | k + 1, x1, x5, x24, x1000, x1001, x1002, x1003 => if x24 = true then (T_number.j1 k x1 (wrap64 (x5 + 1)) x1000 x1001 x1002 x1003) else (T_number.j1 k x1 x5 x1000 x1001 x1002 x1003)
def T_number.j1 : Nat → Int → Int → ByteArray → Int → Int → Int → Option (Int × ByteArray × Int × Int × Int)
 | 0, _, _, _, _, _, _ => none
 | k + 1, x1, x5, x1000, x1001, x1002, x1003 => (T_run.f k x1000 x1001 x1002 x1003 x5).bind fun bt265 => (if bt265.1 = x5 then (some (x1, bt265.2.1, bt265.2.2.1, bt265.2.2.2.1, bt265.2.2.2.2)) else (if 0 ≤ x5 then (if x5 < (bt265.2.1.size : Int) then (if (bt bt265.2.1 x5) = 48 then (T_number.j2 k (wrap64 (x5 + 1)) bt265.2.1 bt265.2.2.1 bt265.2.2.2.1 bt265.2.2.2.2) else (T_number.j2 k bt265.1 bt265.2.1 bt265.2.2.1 bt265.2.2.2.1 bt265.2.2.2.2)) else (none)) else (none)))
def T_number.j2 : Nat → Int → ByteArray → Int → Int → Int → Option (Int × ByteArray × Int × Int × Int)
 | 0, _, _, _, _, _ => none
 | k + 1, x6, x1000, x1001, x1002, x1003 => if x6 < (x1000.size : Int) then (if 0 ≤ x6 then (if (bt x1000 x6) = 46 then ((T_run.f k x1000 x1001 x1002 x1003 (wrap64 (x6 + 1))).bind fun bt270 => (T_number.j3 k x6 (decide (bt270.1 > (wrap64 (x6 + 1)))) bt270.2.1 bt270.2.2.1 bt270.2.2.2.1 bt270.2.2.2.2)) else (T_number.j3 k x6 false x1000 x1001 x1002 x1003)) else (none)) else (T_number.j3 k x6 false x1000 x1001 x1002 x1003)
def T_number.j3 : Nat → Int → Bool → ByteArray → Int → Int → Int → Option (Int × ByteArray × Int × Int × Int)
 | 0, _, _, _, _, _, _ => none
 | k + 1, x6, x67, x1000, x1001, x1002, x1003 => if x67 = true then ((T_run.f k x1000 x1001 x1002 x1003 (wrap64 (x6 + 1))).bind fun bt275 => (T_number.j4 k bt275.1 bt275.2.1 bt275.2.2.1 bt275.2.2.2.1 bt275.2.2.2.2)) else (T_number.j4 k x6 x1000 x1001 x1002 x1003)
def T_number.j4 : Nat → Int → ByteArray → Int → Int → Int → Option (Int × ByteArray × Int × Int × Int)
 | 0, _, _, _, _, _ => none
 | k + 1, x6, x1000, x1001, x1002, x1003 => if x6 < (x1000.size : Int) then (if 0 ≤ x6 then (if (bt x1000 x6) = 101 then (T_number.j5 k x6 true x1000 x1001 x1002 x1003) else (T_number.j5 k x6 ((bt x1000 x6) == 69) x1000 x1001 x1002 x1003)) else (none)) else (T_number.j5 k x6 false x1000 x1001 x1002 x1003)
def T_number.j5 : Nat → Int → Bool → ByteArray → Int → Int → Int → Option (Int × ByteArray × Int × Int × Int)
 | 0, _, _, _, _, _, _ => none
 | k + 1, x6, x96, x1000, x1001, x1002, x1003 => if x96 = true then (if (wrap64 (x6 + 1)) < (x1000.size : Int) then (if 0 ≤ (wrap64 (x6 + 1)) then (if (bt x1000 (wrap64 (x6 + 1))) = 43 then (T_number.j6 k x6 (wrap64 (x6 + 1)) true x1000 x1001 x1002 x1003) else (T_number.j6 k x6 (wrap64 (x6 + 1)) ((bt x1000 (wrap64 (x6 + 1))) == 45) x1000 x1001 x1002 x1003)) else (none)) else (T_number.j6 k x6 (wrap64 (x6 + 1)) false x1000 x1001 x1002 x1003)) else (some (x6, x1000, x1001, x1002, x1003))
def T_number.j6 : Nat → Int → Int → Bool → ByteArray → Int → Int → Int → Option (Int × ByteArray × Int × Int × Int)
 | 0, _, _, _, _, _, _, _ => none
 | k + 1, x6, x7, x123, x1000, x1001, x1002, x1003 => if x123 = true then (T_number.j7 k x6 (wrap64 (x7 + 1)) x1000 x1001 x1002 x1003) else (T_number.j7 k x6 x7 x1000 x1001 x1002 x1003)
def T_number.j7 : Nat → Int → Int → ByteArray → Int → Int → Int → Option (Int × ByteArray × Int × Int × Int)
 | 0, _, _, _, _, _, _ => none
 | k + 1, x6, x7, x1000, x1001, x1002, x1003 => (T_run.f k x1000 x1001 x1002 x1003 x7).bind fun bt280 => (if bt280.1 > x7 then ((T_run.f k bt280.2.1 bt280.2.2.1 bt280.2.2.2.1 bt280.2.2.2.2 x7).bind fun bt285 => (some (bt285.1, bt285.2.1, bt285.2.2.1, bt285.2.2.2.1, bt285.2.2.2.2))) else (some (x6, bt280.2.1, bt280.2.2.1, bt280.2.2.2.1, bt280.2.2.2.2)))
end
def T_number.f (k : Nat) (s0_0 : ByteArray) (s0_1 : Int) (s0_2 : Int) (s0_3 : Int) (a1 : Int) : Option (Int × ByteArray × Int × Int × Int) := if a1 < (s0_0.size : Int) then (if 0 ≤ a1 then (T_number.j0 k a1 a1 ((bt s0_0 a1) == 45) s0_0 s0_1 s0_2 s0_3) else (none)) else (T_number.j0 k a1 a1 false s0_0 s0_1 s0_2 s0_3)
set_option maxHeartbeats 8000000 in
set_option maxRecDepth 100000 in
theorem T_number.calls (k : Nat) (g : Nat) (s0_0 : ByteArray) (s0_1 : Int) (s0_2 : Int) (s0_3 : Int) (a1 : Int) (r1 : Int) (r2 : ByteArray) (r3 : Int) (r4 : Int) (r5 : Int) (w0 w : World) (hI : IsS79 w0 w g s0_0 s0_1 s0_2 s0_3) (hB : Below w0.heap.size w0 w) (h : T_number.f k s0_0 s0_1 s0_2 s0_3 a1 = some (r1, r2, r3, r4, r5)) :
  Calls Tryd.prog 47 #[.pointer (some ⟨g, 0, none⟩), .int .i64 a1] w fun e w' => e = .returned (.int .i64 r1) ∧ IsS79 w0 w' g r2 r3 r4 r5 ∧ Below w0.heap.size w0 w' ∧ KeepBut w w' g none := by
 have HI0 := yM hI
 have HK := yM (KeepBut.refl w g none)
 have HL := yM hB.size
 clear hI
 have HW0 := yM hB.size
 have HB := yM hB
 clear hB
 have H : (if a1 < (s0_0.size : Int) then (if 0 ≤ a1 then (T_number.j0 k a1 a1 ((bt s0_0 a1) == 45) s0_0 s0_1 s0_2 s0_3) else (none)) else (T_number.j0 k a1 a1 false s0_0 s0_1 s0_2 s0_3)) = some (r1, r2, r3, r4, r5) := h
 clear h
 have HC3 := yM H
 clear H
 go_enter Tryd.func47, Tryd.ntmps47
 go_upto_region 2 with (fail)
 go_cut [24] (fun v24 wc => ∃ (kq : Nat) (x24_2 : Bool), v24 = .bool x24_2 ∧ Aside0 (T_number.j0 kq a1 a1 x24_2 s0_0 s0_1 s0_2 s0_3 = some (r1, r2, r3, r4, r5)) ∧ Aside0 (kq ≤ k) ∧ Aside0 (IsS79 w0 wc g s0_0 s0_1 s0_2 s0_3) ∧ Aside0 (KeepBut w wc g none) ∧ Aside0 (Below w0.heap.size w0 wc))
 case first =>
  have H := HC3.out
  clear HC3
  by_cases c4 : a1 < (s0_0.size : Int)
  ·rw [if_pos c4] at H
   have c4b0 : decide (a1 < (s0_0.size : Int)) = true := decide_eq_true c4
   clear c4
   (first | rw [c4b0] | (simp only [i64_w, i32_w]; rw [c4b0]) | skip)
   by_cases c5 : 0 ≤ a1
   ·rw [if_pos c5] at H
    have c5b0 : decide (0 ≤ a1) = true := decide_eq_true c5
    clear c5
    have H' := yM H
    clear H
    obtain ⟨HGz7, hgz7⟩ := HI0.out
    have hcz7_0 := cellS79_0 HGz7
    have hcz7_1 := cellS79_1 HGz7
    have hcz7_2 := cellS79_2 HGz7
    have hcz7_3 := cellS79_3 HGz7
    have hfz7_0 := yF HGz7 0
    have hfz7_1 := yF HGz7 1
    have hfz7_2 := yF HGz7 2
    have hfz7_3 := yF HGz7 3
    clear HGz7 hgz7
    have p6 : 0 ≤ (a1 : Int) := yQ (by first | (with_reducible assumption) | assumption)
    have q6 : a1 < (s0_0.size : Int) := yQ (by first | (with_reducible assumption) | assumption)
    have hx6 := bt_at s0_0 a1
    replace p6 := eq_true p6
    replace q6 := eq_true q6
    go_wp2
    go_meet
    case rel => exact ⟨_, (((bt s0_0 a1) == 45)), (by first | rfl | (simp; done) | (simp [*]; done)), H', ⟨by first | omega | exact Nat.le_refl _⟩, ⟨by repeat (first | (with_reducible first | exact HI0.out | apply wA | apply wN | apply wD | apply w_0 | apply w_1 | apply w_2 | apply w_3) | exact HI0.out)⟩, ⟨by repeat (first | (with_reducible first | exact HK.out | apply yK | apply zk | apply zl9 | apply zm) | exact HK.out)⟩, ⟨by repeat (first | (with_reducible first | exact HB.out | apply zA | apply zN | apply zD | refine zq9 ?_ (wG HI0.out)) | exact HB.out)⟩⟩
   ·rw [if_neg c5] at H
    exact absurd H (by simp)
  ·rw [if_neg c4] at H
   have c4b0 : decide (a1 < (s0_0.size : Int)) = false := decide_eq_false c4
   clear c4
   (first | rw [c4b0] | (simp only [i64_w, i32_w]; rw [c4b0]) | skip)
   have H' := yM H
   clear H
   obtain ⟨HGz8, hgz8⟩ := HI0.out
   have hcz8_0 := cellS79_0 HGz8
   have hcz8_1 := cellS79_1 HGz8
   have hcz8_2 := cellS79_2 HGz8
   have hcz8_3 := cellS79_3 HGz8
   have hfz8_0 := yF HGz8 0
   have hfz8_1 := yF HGz8 1
   have hfz8_2 := yF HGz8 2
   have hfz8_3 := yF HGz8 3
   clear HGz8 hgz8
   go_wp2
   go_meet
   case rel => exact ⟨_, (false), (by first | rfl | (simp; done) | (simp [*]; done)), H', ⟨by first | omega | exact Nat.le_refl _⟩, ⟨by repeat (first | (with_reducible first | exact HI0.out | apply wA | apply wN | apply wD | apply w_0 | apply w_1 | apply w_2 | apply w_3) | exact HI0.out)⟩, ⟨by repeat (first | (with_reducible first | exact HK.out | apply yK | apply zk | apply zl9 | apply zm) | exact HK.out)⟩, ⟨by repeat (first | (with_reducible first | exact HB.out | apply zA | apply zN | apply zD | refine zq9 ?_ (wG HI0.out)) | exact HB.out)⟩⟩
 case rest =>
  clear HC3
  obtain ⟨kq, x24_2, rfl, HA, HJ2, HI0, HK, HB⟩ := hcut
  cases kq with
  | zero => exact absurd HA.out (by simp [T_number.j0])
  | succ kj2 =>
   have H := HA.out
   clear HA
   simp only [T_number.j0] at H
   have HC9 := yM H
   clear H
   go_upto_if 24 with (fail)
   go_cut [5] (fun v5 wc => ∃ (kq : Nat) (x5_8 : Int), v5 = .int .i64 x5_8 ∧ Aside0 (T_number.j1 kq a1 x5_8 s0_0 s0_1 s0_2 s0_3 = some (r1, r2, r3, r4, r5)) ∧ Aside0 (kq ≤ kj2) ∧ Aside0 (IsS79 w0 wc g s0_0 s0_1 s0_2 s0_3) ∧ Aside0 (KeepBut w wc g none) ∧ Aside0 (Below w0.heap.size w0 wc))
   case first =>
    have H := HC9.out
    clear HC9
    by_cases c10 : x24_2 = true
    ·subst c10
     have H1 : (T_number.j1 kj2 a1 (wrap64 (a1 + 1)) s0_0 s0_1 s0_2 s0_3) = some (r1, r2, r3, r4, r5) := by rw [if_pos rfl] at H; exact H
     clear H
     have H := H1
     clear H1
     have H' := yM H
     clear H
     go_wp2
     go_meet
     case rel => exact ⟨_, (wrap64 (a1 + 1)), (by first | rfl | (simp; done) | (simp [*]; done)), H', ⟨by have := HJ2.out; first | omega | exact Nat.le_refl _⟩, ⟨by repeat (first | (with_reducible first | exact HI0.out | apply wA | apply wN | apply wD | apply w_0 | apply w_1 | apply w_2 | apply w_3) | exact HI0.out)⟩, ⟨by repeat (first | (with_reducible first | exact HK.out | apply yK | apply zk | apply zl9 | apply zm) | exact HK.out)⟩, ⟨by repeat (first | (with_reducible first | exact HB.out | apply zA | apply zN | apply zD | refine zq9 ?_ (wG HI0.out)) | exact HB.out)⟩⟩
    ·replace c10 := Bool.eq_false_iff.mpr c10
     subst c10
     have H1 : (T_number.j1 kj2 a1 a1 s0_0 s0_1 s0_2 s0_3) = some (r1, r2, r3, r4, r5) := by rw [if_neg (show ¬ (false = true) by decide)] at H; exact H
     clear H
     have H := H1
     clear H1
     have H' := yM H
     clear H
     go_wp2
     go_meet
     case rel => exact ⟨_, (a1), (by first | rfl | (simp; done) | (simp [*]; done)), H', ⟨by have := HJ2.out; first | omega | exact Nat.le_refl _⟩, ⟨by repeat (first | (with_reducible first | exact HI0.out | apply wA | apply wN | apply wD | apply w_0 | apply w_1 | apply w_2 | apply w_3) | exact HI0.out)⟩, ⟨by repeat (first | (with_reducible first | exact HK.out | apply yK | apply zk | apply zl9 | apply zm) | exact HK.out)⟩, ⟨by repeat (first | (with_reducible first | exact HB.out | apply zA | apply zN | apply zD | refine zq9 ?_ (wG HI0.out)) | exact HB.out)⟩⟩
   case rest =>
    clear HC9
    obtain ⟨kq, x5_8, rfl, HA, HJ8, HI0, HK, HB⟩ := hcut
    cases kq with
    | zero => exact absurd HA.out (by simp [T_number.j1])
    | succ kj8 =>
     have H := HA.out
     clear HA
     simp only [T_number.j1] at H
     replace H := yO H
     obtain ⟨⟨t265, t266, t267, t268, t269⟩, A110, H⟩ := H
     replace H : (if t265 = x5_8 then (some (a1, t266, t267, t268, t269)) else (if 0 ≤ x5_8 then (if x5_8 < (t266.size : Int) then (if (bt t266 x5_8) = 48 then (T_number.j2 kj8 (wrap64 (x5_8 + 1)) t266 t267 t268 t269) else (T_number.j2 kj8 t265 t266 t267 t268 t269)) else (none)) else (none))) = some (r1, r2, r3, r4, r5) := H
     have A11 := yM A110
     clear A110
     by_cases c12 : t265 = x5_8
     ·rw [if_pos c12] at H
      have c12b0 : (t265 == x5_8) = true := beq_iff_eq.mpr c12
      have c12b1 : (t265 != x5_8) = false := bne_eq_false_iff_eq.mpr c12
      clear c12
      simp only [Option.some.injEq, Prod.mk.injEq] at H
      obtain ⟨rfl, rfl, rfl, rfl, rfl⟩ := H
      go_wp2_with (first | ((with_reducible refine gate_callee (f := 65) rfl ?_); refine goesL_ (some 29) rfl rfl Tryd.func65 (by kernel_rfl) rfl #[.pointer (some ⟨g, 0, none⟩), .int .i64 x5_8] rfl (by (try simp only [List.map_toArray, List.map_cons, List.map_nil]); first | done | rfl | (simp only [List.length_drop, List.length_take]; rfl)) ?_; (with_reducible refine (T_run.calls kj8 g s0_0 s0_1 s0_2 s0_3 x5_8 t265 t266 t267 t268 t269 w0 _ ?side1 ?side2 A11.out).mono ?_); (case side1 => repeat (first | (with_reducible first | exact HI0.out | apply wA | apply wN | apply wD | apply w_0 | apply w_1 | apply w_2 | apply w_3) | exact HI0.out)); (case side2 => repeat (first | (with_reducible first | exact HB.out | apply zA | apply zN | apply zD | refine zq9 ?_ (wG HI0.out)) | exact HB.out)); rintro e w13 ⟨rfl, hi, hb, hk⟩; refine ⟨_, rfl, ?_⟩; have n0_ := yM (KeepBut.trans (by repeat (first | (with_reducible first | exact HK.out | apply yK | apply zk | apply zl9 | apply zm) | exact HK.out)) hk (.inl rfl)); have n1_ := yM (hb); have n2_ := yM (hi); clear HK; clear HB; clear HI0; have HK := n0_; have HB := n1_; have HI0 := n2_; clear n0_ n1_ n2_; (try clear hb); (try clear hb2); (try clear hk); (try clear hi)))
      go_ret
      exact ⟨by first | rfl | (simp [errW_none, errW_some] <;> rfl) | (simp [*, errW_none, errW_some] <;> rfl), by repeat (first | (with_reducible first | exact HI0.out | apply wA | apply wN | apply wD | apply w_0 | apply w_1 | apply w_2 | apply w_3) | exact HI0.out), by repeat (first | (with_reducible first | exact HB.out | apply zA | apply zN | apply zD | refine zq9 ?_ (wG HI0.out)) | exact HB.out), by repeat (first | (with_reducible first | exact HK.out | apply yK | apply zk | apply zl9 | apply zm) | exact HK.out)⟩
     ·rw [if_neg c12] at H
      have c12b0 : (t265 == x5_8) = false := yB c12
      have c12b1 : (t265 != x5_8) = true := bne_iff_ne.mpr c12
      by_cases c14 : 0 ≤ x5_8
      ·rw [if_pos c14] at H
       have c14b0 : decide (0 ≤ x5_8) = true := decide_eq_true c14
       clear c14
       by_cases c15 : x5_8 < (t266.size : Int)
       ·rw [if_pos c15] at H
        have c15b0 : decide (x5_8 < (t266.size : Int)) = true := decide_eq_true c15
        clear c15
        have HC17 := yM H
        clear H
        go_upto_if 40 with (first | ((with_reducible refine gate_callee (f := 65) rfl ?_); refine goesL_ (some 29) rfl rfl Tryd.func65 (by kernel_rfl) rfl #[.pointer (some ⟨g, 0, none⟩), .int .i64 x5_8] rfl (by (try simp only [List.map_toArray, List.map_cons, List.map_nil]); first | done | rfl | (simp only [List.length_drop, List.length_take]; rfl)) ?_; (with_reducible refine (T_run.calls kj8 g s0_0 s0_1 s0_2 s0_3 x5_8 t265 t266 t267 t268 t269 w0 _ ?side1 ?side2 A11.out).mono ?_); (case side1 => repeat (first | (with_reducible first | exact HI0.out | apply wA | apply wN | apply wD | apply w_0 | apply w_1 | apply w_2 | apply w_3) | exact HI0.out)); (case side2 => repeat (first | (with_reducible first | exact HB.out | apply zA | apply zN | apply zD | refine zq9 ?_ (wG HI0.out)) | exact HB.out)); rintro e w18 ⟨rfl, hi, hb, hk⟩; refine ⟨_, rfl, ?_⟩; have n0_ := yM (KeepBut.trans (by repeat (first | (with_reducible first | exact HK.out | apply yK | apply zk | apply zl9 | apply zm) | exact HK.out)) hk (.inl rfl)); have n1_ := yM (hb); have n2_ := yM (hi); clear HK; clear HB; clear HI0; have HK := n0_; have HB := n1_; have HI0 := n2_; clear n0_ n1_ n2_; (try clear hb); (try clear hb2); (try clear hk); (try clear hi); obtain ⟨HGz19, hgz19⟩ := HI0.out; have hcz19_0 := cellS79_0 HGz19; have hcz19_1 := cellS79_1 HGz19; have hcz19_2 := cellS79_2 HGz19; have hcz19_3 := cellS79_3 HGz19; have hfz19_0 := yF HGz19 0; have hfz19_1 := yF HGz19 1; have hfz19_2 := yF HGz19 2; have hfz19_3 := yF HGz19 3; clear HGz19 hgz19; have p16 : 0 ≤ (x5_8 : Int) := yQ (by first | (with_reducible assumption) | assumption); have q16 : x5_8 < (t266.size : Int) := yQ (by first | (with_reducible assumption) | assumption); have hx16 := bt_at t266 x5_8; replace p16 := eq_true p16; replace q16 := eq_true q16))
        (try simp only [Act.put, yX, yY, yZ])
        go_cut [6] (fun v6 wc => ∃ (kq : Nat) (x6_16 : Int), v6 = .int .i64 x6_16 ∧ Aside0 (T_number.j2 kq x6_16 t266 t267 t268 t269 = some (r1, r2, r3, r4, r5)) ∧ Aside0 (kq ≤ kj8) ∧ Aside0 (IsS79 w0 wc g t266 t267 t268 t269) ∧ Aside0 (KeepBut w wc g none) ∧ Aside0 (Below w0.heap.size w0 wc))
        case first =>
         have H := HC17.out
         clear HC17
         by_cases c20 : (bt t266 x5_8) = 48
         ·rw [if_pos c20] at H
          have c20b0 : ((bt t266 x5_8) == 48) = true := beq_iff_eq.mpr c20
          have c20b1 : ((bt t266 x5_8) != 48) = false := bne_eq_false_iff_eq.mpr c20
          clear c20
          (first | rw [c20b0] | (simp only [i64_w, i32_w]; rw [c20b0]) | skip)
          have H' := yM H
          clear H
          go_wp2
          go_meet
          case rel => exact ⟨_, (wrap64 (x5_8 + 1)), (by first | rfl | (simp; done) | (simp [*]; done)), H', ⟨by have := HJ2.out; have := HJ8.out; first | omega | exact Nat.le_refl _⟩, ⟨by repeat (first | (with_reducible first | exact HI0.out | apply wA | apply wN | apply wD | apply w_0 | apply w_1 | apply w_2 | apply w_3) | exact HI0.out)⟩, ⟨by repeat (first | (with_reducible first | exact HK.out | apply yK | apply zk | apply zl9 | apply zm) | exact HK.out)⟩, ⟨by repeat (first | (with_reducible first | exact HB.out | apply zA | apply zN | apply zD | refine zq9 ?_ (wG HI0.out)) | exact HB.out)⟩⟩
         ·rw [if_neg c20] at H
          have c20b0 : ((bt t266 x5_8) == 48) = false := yB c20
          have c20b1 : ((bt t266 x5_8) != 48) = true := bne_iff_ne.mpr c20
          (first | rw [c20b0] | (simp only [i64_w, i32_w]; rw [c20b0]) | skip)
          have H' := yM H
          clear H
          go_wp2
          go_meet
          case rel => exact ⟨_, (t265), (by first | rfl | (simp; done) | (simp [*]; done)), H', ⟨by have := HJ2.out; have := HJ8.out; first | omega | exact Nat.le_refl _⟩, ⟨by repeat (first | (with_reducible first | exact HI0.out | apply wA | apply wN | apply wD | apply w_0 | apply w_1 | apply w_2 | apply w_3) | exact HI0.out)⟩, ⟨by repeat (first | (with_reducible first | exact HK.out | apply yK | apply zk | apply zl9 | apply zm) | exact HK.out)⟩, ⟨by repeat (first | (with_reducible first | exact HB.out | apply zA | apply zN | apply zD | refine zq9 ?_ (wG HI0.out)) | exact HB.out)⟩⟩
        case rest =>
         clear HC17
         obtain ⟨kq, x6_16, rfl, HA, HJ16, HI0, HK, HB⟩ := hcut
         cases kq with
         | zero => exact absurd HA.out (by simp [T_number.j2])
         | succ kj16 =>
          have H := HA.out
          clear HA
          simp only [T_number.j2] at H
          have HC21 := yM H
          clear H
          go_upto_region 9 with (fail)
          go_cut [67] (fun v67 wc => ∃ (kq : Nat) (x67_20 : Bool) (x1000_20 : ByteArray) (x1001_20 : Int) (x1002_20 : Int) (x1003_20 : Int), v67 = .bool x67_20 ∧ Aside0 (T_number.j3 kq x6_16 x67_20 x1000_20 x1001_20 x1002_20 x1003_20 = some (r1, r2, r3, r4, r5)) ∧ Aside0 (kq ≤ kj16) ∧ Aside0 (IsS79 w0 wc g x1000_20 x1001_20 x1002_20 x1003_20) ∧ Aside0 (KeepBut w wc g none) ∧ Aside0 (Below w0.heap.size w0 wc))
          case first =>
           have H := HC21.out
           clear HC21
           by_cases c22 : x6_16 < (t266.size : Int)
           ·rw [if_pos c22] at H
            have c22b0 : decide (x6_16 < (t266.size : Int)) = true := decide_eq_true c22
            clear c22
            (first | rw [c22b0] | (simp only [i64_w, i32_w]; rw [c22b0]) | skip)
            by_cases c23 : 0 ≤ x6_16
            ·rw [if_pos c23] at H
             have c23b0 : decide (0 ≤ x6_16) = true := decide_eq_true c23
             clear c23
             by_cases c25 : (bt t266 x6_16) = 46
             ·rw [if_pos c25] at H
              have c25b0 : ((bt t266 x6_16) == 46) = true := beq_iff_eq.mpr c25
              have c25b1 : ((bt t266 x6_16) != 46) = false := bne_eq_false_iff_eq.mpr c25
              clear c25
              replace H := yO H
              obtain ⟨⟨t270, t271, t272, t273, t274⟩, A260, H⟩ := H
              replace H : (T_number.j3 kj16 x6_16 (decide (t270 > (wrap64 (x6_16 + 1)))) t271 t272 t273 t274) = some (r1, r2, r3, r4, r5) := H
              have A26 := yM A260
              clear A260
              have H' := yM H
              clear H
              obtain ⟨HGz27, hgz27⟩ := HI0.out
              have hcz27_0 := cellS79_0 HGz27
              have hcz27_1 := cellS79_1 HGz27
              have hcz27_2 := cellS79_2 HGz27
              have hcz27_3 := cellS79_3 HGz27
              have hfz27_0 := yF HGz27 0
              have hfz27_1 := yF HGz27 1
              have hfz27_2 := yF HGz27 2
              have hfz27_3 := yF HGz27 3
              clear HGz27 hgz27
              have p24 : 0 ≤ (x6_16 : Int) := yQ (by first | (with_reducible assumption) | assumption)
              have q24 : x6_16 < (t266.size : Int) := yQ (by first | (with_reducible assumption) | assumption)
              have hx24 := bt_at t266 x6_16
              replace p24 := eq_true p24
              replace q24 := eq_true q24
              go_wp2_with (first | (go_at_call 65; (with_reducible refine (T_run.calls kj16 g t266 t267 t268 t269 (wrap64 (x6_16 + 1)) t270 t271 t272 t273 t274 w0 _ ?side1 ?side2 A26.out).mono ?_); (case side1 => repeat (first | (with_reducible first | exact HI0.out | apply wA | apply wN | apply wD | apply w_0 | apply w_1 | apply w_2 | apply w_3) | exact HI0.out)); (case side2 => repeat (first | (with_reducible first | exact HB.out | apply zA | apply zN | apply zD | refine zq9 ?_ (wG HI0.out)) | exact HB.out)); rintro e w28 ⟨rfl, hi, hb, hk⟩; have n0_ := yM (KeepBut.trans (by repeat (first | (with_reducible first | exact HK.out | apply yK | apply zk | apply zl9 | apply zm) | exact HK.out)) hk (.inl rfl)); have n1_ := yM (hb); have n2_ := yM (hi); clear HK; clear HB; clear HI0; have HK := n0_; have HB := n1_; have HI0 := n2_; clear n0_ n1_ n2_; (try clear hb); (try clear hb2); (try clear hk); (try clear hi)))
              go_meet
              case rel => exact ⟨_, (decide (t270 > (wrap64 (x6_16 + 1)))), (t271), (t272), (t273), (t274), (by first | rfl | (simp; done) | (simp [*]; done)), H', ⟨by have := HJ2.out; have := HJ8.out; have := HJ16.out; first | omega | exact Nat.le_refl _⟩, ⟨by repeat (first | (with_reducible first | exact HI0.out | apply wA | apply wN | apply wD | apply w_0 | apply w_1 | apply w_2 | apply w_3) | exact HI0.out)⟩, ⟨by repeat (first | (with_reducible first | exact HK.out | apply yK | apply zk | apply zl9 | apply zm) | exact HK.out)⟩, ⟨by repeat (first | (with_reducible first | exact HB.out | apply zA | apply zN | apply zD | refine zq9 ?_ (wG HI0.out)) | exact HB.out)⟩⟩
             ·rw [if_neg c25] at H
              have c25b0 : ((bt t266 x6_16) == 46) = false := yB c25
              have c25b1 : ((bt t266 x6_16) != 46) = true := bne_iff_ne.mpr c25
              have H' := yM H
              clear H
              obtain ⟨HGz29, hgz29⟩ := HI0.out
              have hcz29_0 := cellS79_0 HGz29
              have hcz29_1 := cellS79_1 HGz29
              have hcz29_2 := cellS79_2 HGz29
              have hcz29_3 := cellS79_3 HGz29
              have hfz29_0 := yF HGz29 0
              have hfz29_1 := yF HGz29 1
              have hfz29_2 := yF HGz29 2
              have hfz29_3 := yF HGz29 3
              clear HGz29 hgz29
              have p24 : 0 ≤ (x6_16 : Int) := yQ (by first | (with_reducible assumption) | assumption)
              have q24 : x6_16 < (t266.size : Int) := yQ (by first | (with_reducible assumption) | assumption)
              have hx24 := bt_at t266 x6_16
              replace p24 := eq_true p24
              replace q24 := eq_true q24
              go_wp2
              go_meet
              case rel => exact ⟨_, (false), (t266), (t267), (t268), (t269), (by first | rfl | (simp; done) | (simp [*]; done)), H', ⟨by have := HJ2.out; have := HJ8.out; have := HJ16.out; first | omega | exact Nat.le_refl _⟩, ⟨by repeat (first | (with_reducible first | exact HI0.out | apply wA | apply wN | apply wD | apply w_0 | apply w_1 | apply w_2 | apply w_3) | exact HI0.out)⟩, ⟨by repeat (first | (with_reducible first | exact HK.out | apply yK | apply zk | apply zl9 | apply zm) | exact HK.out)⟩, ⟨by repeat (first | (with_reducible first | exact HB.out | apply zA | apply zN | apply zD | refine zq9 ?_ (wG HI0.out)) | exact HB.out)⟩⟩
            ·rw [if_neg c23] at H
             exact absurd H (by simp)
           ·rw [if_neg c22] at H
            have c22b0 : decide (x6_16 < (t266.size : Int)) = false := decide_eq_false c22
            clear c22
            (first | rw [c22b0] | (simp only [i64_w, i32_w]; rw [c22b0]) | skip)
            have H' := yM H
            clear H
            obtain ⟨HGz30, hgz30⟩ := HI0.out
            have hcz30_0 := cellS79_0 HGz30
            have hcz30_1 := cellS79_1 HGz30
            have hcz30_2 := cellS79_2 HGz30
            have hcz30_3 := cellS79_3 HGz30
            have hfz30_0 := yF HGz30 0
            have hfz30_1 := yF HGz30 1
            have hfz30_2 := yF HGz30 2
            have hfz30_3 := yF HGz30 3
            clear HGz30 hgz30
            go_wp2
            go_meet
            case rel => exact ⟨_, (false), (t266), (t267), (t268), (t269), (by first | rfl | (simp; done) | (simp [*]; done)), H', ⟨by have := HJ2.out; have := HJ8.out; have := HJ16.out; first | omega | exact Nat.le_refl _⟩, ⟨by repeat (first | (with_reducible first | exact HI0.out | apply wA | apply wN | apply wD | apply w_0 | apply w_1 | apply w_2 | apply w_3) | exact HI0.out)⟩, ⟨by repeat (first | (with_reducible first | exact HK.out | apply yK | apply zk | apply zl9 | apply zm) | exact HK.out)⟩, ⟨by repeat (first | (with_reducible first | exact HB.out | apply zA | apply zN | apply zD | refine zq9 ?_ (wG HI0.out)) | exact HB.out)⟩⟩
          case rest =>
           clear HC21
           obtain ⟨kq, x67_20, x1000_20, x1001_20, x1002_20, x1003_20, rfl, HA, HJ20, HI0, HK, HB⟩ := hcut
           cases kq with
           | zero => exact absurd HA.out (by simp [T_number.j3])
           | succ kj20 =>
            have H := HA.out
            clear HA
            simp only [T_number.j3] at H
            have HC31 := yM H
            clear H
            go_upto_if 67 with (fail)
            go_cut [6] (fun v6 wc => ∃ (kq : Nat) (x6_30 : Int) (x1000_30 : ByteArray) (x1001_30 : Int) (x1002_30 : Int) (x1003_30 : Int), v6 = .int .i64 x6_30 ∧ Aside0 (T_number.j4 kq x6_30 x1000_30 x1001_30 x1002_30 x1003_30 = some (r1, r2, r3, r4, r5)) ∧ Aside0 (kq ≤ kj20) ∧ Aside0 (IsS79 w0 wc g x1000_30 x1001_30 x1002_30 x1003_30) ∧ Aside0 (KeepBut w wc g none) ∧ Aside0 (Below w0.heap.size w0 wc))
            case first =>
             have H := HC31.out
             clear HC31
             by_cases c32 : x67_20 = true
             ·subst c32
              have H1 : ((T_run.f kj20 x1000_20 x1001_20 x1002_20 x1003_20 (wrap64 (x6_16 + 1))).bind fun bt275 => (T_number.j4 kj20 bt275.1 bt275.2.1 bt275.2.2.1 bt275.2.2.2.1 bt275.2.2.2.2)) = some (r1, r2, r3, r4, r5) := by rw [if_pos rfl] at H; exact H
              clear H
              have H := H1
              clear H1
              replace H := yO H
              obtain ⟨⟨t275, t276, t277, t278, t279⟩, A330, H⟩ := H
              replace H : (T_number.j4 kj20 t275 t276 t277 t278 t279) = some (r1, r2, r3, r4, r5) := H
              have A33 := yM A330
              clear A330
              have H' := yM H
              clear H
              go_wp2_with (first | ((with_reducible refine gate_callee (f := 65) rfl ?_); refine goesL_ (some 71) rfl rfl Tryd.func65 (by kernel_rfl) rfl #[.pointer (some ⟨g, 0, none⟩), .int .i64 (wrap64 (x6_16 + 1))] rfl (by (try simp only [List.map_toArray, List.map_cons, List.map_nil]); first | done | rfl | (simp only [List.length_drop, List.length_take]; rfl)) ?_; (with_reducible refine (T_run.calls kj20 g x1000_20 x1001_20 x1002_20 x1003_20 (wrap64 (x6_16 + 1)) t275 t276 t277 t278 t279 w0 _ ?side1 ?side2 A33.out).mono ?_); (case side1 => repeat (first | (with_reducible first | exact HI0.out | apply wA | apply wN | apply wD | apply w_0 | apply w_1 | apply w_2 | apply w_3) | exact HI0.out)); (case side2 => repeat (first | (with_reducible first | exact HB.out | apply zA | apply zN | apply zD | refine zq9 ?_ (wG HI0.out)) | exact HB.out)); rintro e w34 ⟨rfl, hi, hb, hk⟩; refine ⟨_, rfl, ?_⟩; have n0_ := yM (KeepBut.trans (by repeat (first | (with_reducible first | exact HK.out | apply yK | apply zk | apply zl9 | apply zm) | exact HK.out)) hk (.inl rfl)); have n1_ := yM (hb); have n2_ := yM (hi); clear HK; clear HB; clear HI0; have HK := n0_; have HB := n1_; have HI0 := n2_; clear n0_ n1_ n2_; (try clear hb); (try clear hb2); (try clear hk); (try clear hi)))
              go_meet
              case rel => exact ⟨_, (t275), (t276), (t277), (t278), (t279), (by first | rfl | (simp; done) | (simp [*]; done)), H', ⟨by have := HJ2.out; have := HJ8.out; have := HJ16.out; have := HJ20.out; first | omega | exact Nat.le_refl _⟩, ⟨by repeat (first | (with_reducible first | exact HI0.out | apply wA | apply wN | apply wD | apply w_0 | apply w_1 | apply w_2 | apply w_3) | exact HI0.out)⟩, ⟨by repeat (first | (with_reducible first | exact HK.out | apply yK | apply zk | apply zl9 | apply zm) | exact HK.out)⟩, ⟨by repeat (first | (with_reducible first | exact HB.out | apply zA | apply zN | apply zD | refine zq9 ?_ (wG HI0.out)) | exact HB.out)⟩⟩
             ·replace c32 := Bool.eq_false_iff.mpr c32
              subst c32
              have H1 : (T_number.j4 kj20 x6_16 x1000_20 x1001_20 x1002_20 x1003_20) = some (r1, r2, r3, r4, r5) := by rw [if_neg (show ¬ (false = true) by decide)] at H; exact H
              clear H
              have H := H1
              clear H1
              have H' := yM H
              clear H
              go_wp2
              go_meet
              case rel => exact ⟨_, (x6_16), (x1000_20), (x1001_20), (x1002_20), (x1003_20), (by first | rfl | (simp; done) | (simp [*]; done)), H', ⟨by have := HJ2.out; have := HJ8.out; have := HJ16.out; have := HJ20.out; first | omega | exact Nat.le_refl _⟩, ⟨by repeat (first | (with_reducible first | exact HI0.out | apply wA | apply wN | apply wD | apply w_0 | apply w_1 | apply w_2 | apply w_3) | exact HI0.out)⟩, ⟨by repeat (first | (with_reducible first | exact HK.out | apply yK | apply zk | apply zl9 | apply zm) | exact HK.out)⟩, ⟨by repeat (first | (with_reducible first | exact HB.out | apply zA | apply zN | apply zD | refine zq9 ?_ (wG HI0.out)) | exact HB.out)⟩⟩
            case rest =>
             clear HC31
             obtain ⟨kq, x6_30, x1000_30, x1001_30, x1002_30, x1003_30, rfl, HA, HJ30, HI0, HK, HB⟩ := hcut
             cases kq with
             | zero => exact absurd HA.out (by simp [T_number.j4])
             | succ kj30 =>
              have H := HA.out
              clear HA
              simp only [T_number.j4] at H
              have HC35 := yM H
              clear H
              go_upto_region 11 with (fail)
              go_cut [96] (fun v96 wc => ∃ (kq : Nat) (x96_34 : Bool), v96 = .bool x96_34 ∧ Aside0 (T_number.j5 kq x6_30 x96_34 x1000_30 x1001_30 x1002_30 x1003_30 = some (r1, r2, r3, r4, r5)) ∧ Aside0 (kq ≤ kj30) ∧ Aside0 (IsS79 w0 wc g x1000_30 x1001_30 x1002_30 x1003_30) ∧ Aside0 (KeepBut w wc g none) ∧ Aside0 (Below w0.heap.size w0 wc))
              case first =>
               have H := HC35.out
               clear HC35
               by_cases c36 : x6_30 < (x1000_30.size : Int)
               ·rw [if_pos c36] at H
                have c36b0 : decide (x6_30 < (x1000_30.size : Int)) = true := decide_eq_true c36
                clear c36
                (first | rw [c36b0] | (simp only [i64_w, i32_w]; rw [c36b0]) | skip)
                by_cases c37 : 0 ≤ x6_30
                ·rw [if_pos c37] at H
                 have c37b0 : decide (0 ≤ x6_30) = true := decide_eq_true c37
                 clear c37
                 by_cases c39 : (bt x1000_30 x6_30) = 101
                 ·rw [if_pos c39] at H
                  have c39b0 : ((bt x1000_30 x6_30) == 101) = true := beq_iff_eq.mpr c39
                  have c39b1 : ((bt x1000_30 x6_30) != 101) = false := bne_eq_false_iff_eq.mpr c39
                  clear c39
                  have H' := yM H
                  clear H
                  obtain ⟨HGz40, hgz40⟩ := HI0.out
                  have hcz40_0 := cellS79_0 HGz40
                  have hcz40_1 := cellS79_1 HGz40
                  have hcz40_2 := cellS79_2 HGz40
                  have hcz40_3 := cellS79_3 HGz40
                  have hfz40_0 := yF HGz40 0
                  have hfz40_1 := yF HGz40 1
                  have hfz40_2 := yF HGz40 2
                  have hfz40_3 := yF HGz40 3
                  clear HGz40 hgz40
                  have p38 : 0 ≤ (x6_30 : Int) := yQ (by first | (with_reducible assumption) | assumption)
                  have q38 : x6_30 < (x1000_30.size : Int) := yQ (by first | (with_reducible assumption) | assumption)
                  have hx38 := bt_at x1000_30 x6_30
                  replace p38 := eq_true p38
                  replace q38 := eq_true q38
                  go_wp2
                  go_meet
                  case rel => exact ⟨_, (true), (by first | rfl | (simp; done) | (simp [*]; done)), H', ⟨by have := HJ2.out; have := HJ8.out; have := HJ16.out; have := HJ20.out; have := HJ30.out; first | omega | exact Nat.le_refl _⟩, ⟨by repeat (first | (with_reducible first | exact HI0.out | apply wA | apply wN | apply wD | apply w_0 | apply w_1 | apply w_2 | apply w_3) | exact HI0.out)⟩, ⟨by repeat (first | (with_reducible first | exact HK.out | apply yK | apply zk | apply zl9 | apply zm) | exact HK.out)⟩, ⟨by repeat (first | (with_reducible first | exact HB.out | apply zA | apply zN | apply zD | refine zq9 ?_ (wG HI0.out)) | exact HB.out)⟩⟩
                 ·rw [if_neg c39] at H
                  have c39b0 : ((bt x1000_30 x6_30) == 101) = false := yB c39
                  have c39b1 : ((bt x1000_30 x6_30) != 101) = true := bne_iff_ne.mpr c39
                  have H' := yM H
                  clear H
                  obtain ⟨HGz42, hgz42⟩ := HI0.out
                  have hcz42_0 := cellS79_0 HGz42
                  have hcz42_1 := cellS79_1 HGz42
                  have hcz42_2 := cellS79_2 HGz42
                  have hcz42_3 := cellS79_3 HGz42
                  have hfz42_0 := yF HGz42 0
                  have hfz42_1 := yF HGz42 1
                  have hfz42_2 := yF HGz42 2
                  have hfz42_3 := yF HGz42 3
                  clear HGz42 hgz42
                  have p38 : 0 ≤ (x6_30 : Int) := yQ (by first | (with_reducible assumption) | assumption)
                  have q38 : x6_30 < (x1000_30.size : Int) := yQ (by first | (with_reducible assumption) | assumption)
                  have hx38 := bt_at x1000_30 x6_30
                  replace p38 := eq_true p38
                  replace q38 := eq_true q38
                  have p41 : 0 ≤ (x6_30 : Int) := yQ (by first | (with_reducible assumption) | assumption)
                  have q41 : x6_30 < (x1000_30.size : Int) := yQ (by first | (with_reducible assumption) | assumption)
                  have hx41 := bt_at x1000_30 x6_30
                  replace p41 := eq_true p41
                  replace q41 := eq_true q41
                  go_wp2
                  go_meet
                  case rel => exact ⟨_, (((bt x1000_30 x6_30) == 69)), (by first | rfl | (simp; done) | (simp [*]; done)), H', ⟨by have := HJ2.out; have := HJ8.out; have := HJ16.out; have := HJ20.out; have := HJ30.out; first | omega | exact Nat.le_refl _⟩, ⟨by repeat (first | (with_reducible first | exact HI0.out | apply wA | apply wN | apply wD | apply w_0 | apply w_1 | apply w_2 | apply w_3) | exact HI0.out)⟩, ⟨by repeat (first | (with_reducible first | exact HK.out | apply yK | apply zk | apply zl9 | apply zm) | exact HK.out)⟩, ⟨by repeat (first | (with_reducible first | exact HB.out | apply zA | apply zN | apply zD | refine zq9 ?_ (wG HI0.out)) | exact HB.out)⟩⟩
                ·rw [if_neg c37] at H
                 exact absurd H (by simp)
               ·rw [if_neg c36] at H
                have c36b0 : decide (x6_30 < (x1000_30.size : Int)) = false := decide_eq_false c36
                clear c36
                (first | rw [c36b0] | (simp only [i64_w, i32_w]; rw [c36b0]) | skip)
                have H' := yM H
                clear H
                obtain ⟨HGz43, hgz43⟩ := HI0.out
                have hcz43_0 := cellS79_0 HGz43
                have hcz43_1 := cellS79_1 HGz43
                have hcz43_2 := cellS79_2 HGz43
                have hcz43_3 := cellS79_3 HGz43
                have hfz43_0 := yF HGz43 0
                have hfz43_1 := yF HGz43 1
                have hfz43_2 := yF HGz43 2
                have hfz43_3 := yF HGz43 3
                clear HGz43 hgz43
                go_wp2
                go_meet
                case rel => exact ⟨_, (false), (by first | rfl | (simp; done) | (simp [*]; done)), H', ⟨by have := HJ2.out; have := HJ8.out; have := HJ16.out; have := HJ20.out; have := HJ30.out; first | omega | exact Nat.le_refl _⟩, ⟨by repeat (first | (with_reducible first | exact HI0.out | apply wA | apply wN | apply wD | apply w_0 | apply w_1 | apply w_2 | apply w_3) | exact HI0.out)⟩, ⟨by repeat (first | (with_reducible first | exact HK.out | apply yK | apply zk | apply zl9 | apply zm) | exact HK.out)⟩, ⟨by repeat (first | (with_reducible first | exact HB.out | apply zA | apply zN | apply zD | refine zq9 ?_ (wG HI0.out)) | exact HB.out)⟩⟩
              case rest =>
               clear HC35
               obtain ⟨kq, x96_34, rfl, HA, HJ34, HI0, HK, HB⟩ := hcut
               cases kq with
               | zero => exact absurd HA.out (by simp [T_number.j5])
               | succ kj34 =>
                have H := HA.out
                clear HA
                simp only [T_number.j5] at H
                by_cases c44 : x96_34 = true
                ·subst c44
                 have H1 : (if (wrap64 (x6_30 + 1)) < (x1000_30.size : Int) then (if 0 ≤ (wrap64 (x6_30 + 1)) then (if (bt x1000_30 (wrap64 (x6_30 + 1))) = 43 then (T_number.j6 kj34 x6_30 (wrap64 (x6_30 + 1)) true x1000_30 x1001_30 x1002_30 x1003_30) else (T_number.j6 kj34 x6_30 (wrap64 (x6_30 + 1)) ((bt x1000_30 (wrap64 (x6_30 + 1))) == 45) x1000_30 x1001_30 x1002_30 x1003_30)) else (none)) else (T_number.j6 kj34 x6_30 (wrap64 (x6_30 + 1)) false x1000_30 x1001_30 x1002_30 x1003_30)) = some (r1, r2, r3, r4, r5) := by rw [if_pos rfl] at H; exact H
                 clear H
                 have H := H1
                 clear H1
                 have HC45 := yM H
                 clear H
                 go_upto_region 13 with (fail)
                 go_cut [123] (fun v123 wc => ∃ (kq : Nat) (x123_44 : Bool), v123 = .bool x123_44 ∧ Aside0 (T_number.j6 kq x6_30 (wrap64 (x6_30 + 1)) x123_44 x1000_30 x1001_30 x1002_30 x1003_30 = some (r1, r2, r3, r4, r5)) ∧ Aside0 (kq ≤ kj34) ∧ Aside0 (IsS79 w0 wc g x1000_30 x1001_30 x1002_30 x1003_30) ∧ Aside0 (KeepBut w wc g none) ∧ Aside0 (Below w0.heap.size w0 wc))
                 case first =>
                  have H := HC45.out
                  clear HC45
                  by_cases c46 : (wrap64 (x6_30 + 1)) < (x1000_30.size : Int)
                  ·rw [if_pos c46] at H
                   have c46b0 : decide ((wrap64 (x6_30 + 1)) < (x1000_30.size : Int)) = true := decide_eq_true c46
                   clear c46
                   (first | rw [c46b0] | (simp only [i64_w, i32_w]; rw [c46b0]) | skip)
                   obtain ⟨ji47, hji47⟩ : ∃ j_ : Int, (wrap64 (x6_30 + 1)) = j_ := ⟨_, rfl⟩
                   replace H : (if 0 ≤ (ji47) then (if (bt x1000_30 (ji47)) = 43 then (T_number.j6 kj34 x6_30 ji47 true x1000_30 x1001_30 x1002_30 x1003_30) else (T_number.j6 kj34 x6_30 ji47 ((bt x1000_30 (ji47)) == 45) x1000_30 x1001_30 x1002_30 x1003_30)) else (none)) = some (r1, r2, r3, r4, r5) := by first | (rw [hji47] at H; exact H) | (simp only [hji47] at H ⊢; exact H)
                   (try rw [hji47] at c46b0)
                   have hji47w : (IntKind.i64.wrap (x6_30 + 1)) = ji47 := (i64_w _).trans hji47
                   by_cases c48 : 0 ≤ (ji47)
                   ·rw [if_pos c48] at H
                    have c48b0 : decide (0 ≤ (ji47)) = true := decide_eq_true c48
                    clear c48
                    by_cases c50 : (bt x1000_30 (ji47)) = 43
                    ·rw [if_pos c50] at H
                     have c50b0 : ((bt x1000_30 (ji47)) == 43) = true := beq_iff_eq.mpr c50
                     have c50b1 : ((bt x1000_30 (ji47)) != 43) = false := bne_eq_false_iff_eq.mpr c50
                     clear c50
                     have H' := yM H
                     clear H
                     obtain ⟨HGz51, hgz51⟩ := HI0.out
                     have hcz51_0 := cellS79_0 HGz51
                     have hcz51_1 := cellS79_1 HGz51
                     have hcz51_2 := cellS79_2 HGz51
                     have hcz51_3 := cellS79_3 HGz51
                     have hfz51_0 := yF HGz51 0
                     have hfz51_1 := yF HGz51 1
                     have hfz51_2 := yF HGz51 2
                     have hfz51_3 := yF HGz51 3
                     clear HGz51 hgz51
                     have p49 : 0 ≤ ((ji47) : Int) := yQ (by first | (with_reducible assumption) | assumption)
                     have q49 : (ji47) < (x1000_30.size : Int) := yQ (by first | (with_reducible assumption) | assumption)
                     have hx49 := bt_at x1000_30 (ji47)
                     replace p49 := eq_true p49
                     replace q49 := eq_true q49
                     go_wp2
                     go_meet
                     case rel => exact ⟨_, (true), (by first | rfl | (simp; done) | (simp [*]; done)), (by rw [hji47]; exact H'), ⟨by have := HJ2.out; have := HJ8.out; have := HJ16.out; have := HJ20.out; have := HJ30.out; have := HJ34.out; first | omega | exact Nat.le_refl _⟩, ⟨by repeat (first | (with_reducible first | exact HI0.out | apply wA | apply wN | apply wD | apply w_0 | apply w_1 | apply w_2 | apply w_3) | exact HI0.out)⟩, ⟨by repeat (first | (with_reducible first | exact HK.out | apply yK | apply zk | apply zl9 | apply zm) | exact HK.out)⟩, ⟨by repeat (first | (with_reducible first | exact HB.out | apply zA | apply zN | apply zD | refine zq9 ?_ (wG HI0.out)) | exact HB.out)⟩⟩
                    ·rw [if_neg c50] at H
                     have c50b0 : ((bt x1000_30 (ji47)) == 43) = false := yB c50
                     have c50b1 : ((bt x1000_30 (ji47)) != 43) = true := bne_iff_ne.mpr c50
                     have H' := yM H
                     clear H
                     obtain ⟨HGz53, hgz53⟩ := HI0.out
                     have hcz53_0 := cellS79_0 HGz53
                     have hcz53_1 := cellS79_1 HGz53
                     have hcz53_2 := cellS79_2 HGz53
                     have hcz53_3 := cellS79_3 HGz53
                     have hfz53_0 := yF HGz53 0
                     have hfz53_1 := yF HGz53 1
                     have hfz53_2 := yF HGz53 2
                     have hfz53_3 := yF HGz53 3
                     clear HGz53 hgz53
                     have p49 : 0 ≤ ((ji47) : Int) := yQ (by first | (with_reducible assumption) | assumption)
                     have q49 : (ji47) < (x1000_30.size : Int) := yQ (by first | (with_reducible assumption) | assumption)
                     have hx49 := bt_at x1000_30 (ji47)
                     replace p49 := eq_true p49
                     replace q49 := eq_true q49
                     have p52 : 0 ≤ ((ji47) : Int) := yQ (by first | (with_reducible assumption) | assumption)
                     have q52 : (ji47) < (x1000_30.size : Int) := yQ (by first | (with_reducible assumption) | assumption)
                     have hx52 := bt_at x1000_30 (ji47)
                     replace p52 := eq_true p52
                     replace q52 := eq_true q52
                     go_wp2
                     go_meet
                     case rel => exact ⟨_, (((bt x1000_30 (ji47)) == 45)), (by first | rfl | (simp; done) | (simp only [← hji47] <;> (first | rfl | simp)) | (simp [*]; done)), (by rw [hji47]; exact H'), ⟨by have := HJ2.out; have := HJ8.out; have := HJ16.out; have := HJ20.out; have := HJ30.out; have := HJ34.out; first | omega | exact Nat.le_refl _⟩, ⟨by repeat (first | (with_reducible first | exact HI0.out | apply wA | apply wN | apply wD | apply w_0 | apply w_1 | apply w_2 | apply w_3) | exact HI0.out)⟩, ⟨by repeat (first | (with_reducible first | exact HK.out | apply yK | apply zk | apply zl9 | apply zm) | exact HK.out)⟩, ⟨by repeat (first | (with_reducible first | exact HB.out | apply zA | apply zN | apply zD | refine zq9 ?_ (wG HI0.out)) | exact HB.out)⟩⟩
                   ·rw [if_neg c48] at H
                    exact absurd H (by simp)
                  ·rw [if_neg c46] at H
                   have c46b0 : decide ((wrap64 (x6_30 + 1)) < (x1000_30.size : Int)) = false := decide_eq_false c46
                   clear c46
                   (first | rw [c46b0] | (simp only [i64_w, i32_w]; rw [c46b0]) | skip)
                   have H' := yM H
                   clear H
                   obtain ⟨HGz54, hgz54⟩ := HI0.out
                   have hcz54_0 := cellS79_0 HGz54
                   have hcz54_1 := cellS79_1 HGz54
                   have hcz54_2 := cellS79_2 HGz54
                   have hcz54_3 := cellS79_3 HGz54
                   have hfz54_0 := yF HGz54 0
                   have hfz54_1 := yF HGz54 1
                   have hfz54_2 := yF HGz54 2
                   have hfz54_3 := yF HGz54 3
                   clear HGz54 hgz54
                   go_wp2
                   go_meet
                   case rel => exact ⟨_, (false), (by first | rfl | (simp; done) | (simp [*]; done)), H', ⟨by have := HJ2.out; have := HJ8.out; have := HJ16.out; have := HJ20.out; have := HJ30.out; have := HJ34.out; first | omega | exact Nat.le_refl _⟩, ⟨by repeat (first | (with_reducible first | exact HI0.out | apply wA | apply wN | apply wD | apply w_0 | apply w_1 | apply w_2 | apply w_3) | exact HI0.out)⟩, ⟨by repeat (first | (with_reducible first | exact HK.out | apply yK | apply zk | apply zl9 | apply zm) | exact HK.out)⟩, ⟨by repeat (first | (with_reducible first | exact HB.out | apply zA | apply zN | apply zD | refine zq9 ?_ (wG HI0.out)) | exact HB.out)⟩⟩
                 case rest =>
                  clear HC45
                  obtain ⟨kq, x123_44, rfl, HA, HJ44, HI0, HK, HB⟩ := hcut
                  cases kq with
                  | zero => exact absurd HA.out (by simp [T_number.j6])
                  | succ kj44 =>
                   have H := HA.out
                   clear HA
                   simp only [T_number.j6] at H
                   have HC55 := yM H
                   clear H
                   go_upto_if 123 with (fail)
                   go_cut [7] (fun v7 wc => ∃ (kq : Nat) (x7_54 : Int), v7 = .int .i64 x7_54 ∧ Aside0 (T_number.j7 kq x6_30 x7_54 x1000_30 x1001_30 x1002_30 x1003_30 = some (r1, r2, r3, r4, r5)) ∧ Aside0 (kq ≤ kj44) ∧ Aside0 (IsS79 w0 wc g x1000_30 x1001_30 x1002_30 x1003_30) ∧ Aside0 (KeepBut w wc g none) ∧ Aside0 (Below w0.heap.size w0 wc))
                   case first =>
                    have H := HC55.out
                    clear HC55
                    by_cases c56 : x123_44 = true
                    ·subst c56
                     have H1 : (T_number.j7 kj44 x6_30 (wrap64 ((wrap64 (x6_30 + 1)) + 1)) x1000_30 x1001_30 x1002_30 x1003_30) = some (r1, r2, r3, r4, r5) := by rw [if_pos rfl] at H; exact H
                     clear H
                     have H := H1
                     clear H1
                     have H' := yM H
                     clear H
                     go_wp2
                     go_meet
                     case rel => exact ⟨_, (wrap64 ((wrap64 (x6_30 + 1)) + 1)), (by first | rfl | (simp; done) | (simp [*]; done)), H', ⟨by have := HJ2.out; have := HJ8.out; have := HJ16.out; have := HJ20.out; have := HJ30.out; have := HJ34.out; have := HJ44.out; first | omega | exact Nat.le_refl _⟩, ⟨by repeat (first | (with_reducible first | exact HI0.out | apply wA | apply wN | apply wD | apply w_0 | apply w_1 | apply w_2 | apply w_3) | exact HI0.out)⟩, ⟨by repeat (first | (with_reducible first | exact HK.out | apply yK | apply zk | apply zl9 | apply zm) | exact HK.out)⟩, ⟨by repeat (first | (with_reducible first | exact HB.out | apply zA | apply zN | apply zD | refine zq9 ?_ (wG HI0.out)) | exact HB.out)⟩⟩
                    ·replace c56 := Bool.eq_false_iff.mpr c56
                     subst c56
                     have H1 : (T_number.j7 kj44 x6_30 (wrap64 (x6_30 + 1)) x1000_30 x1001_30 x1002_30 x1003_30) = some (r1, r2, r3, r4, r5) := by rw [if_neg (show ¬ (false = true) by decide)] at H; exact H
                     clear H
                     have H := H1
                     clear H1
                     have H' := yM H
                     clear H
                     go_wp2
                     go_meet
                     case rel => exact ⟨_, ((wrap64 (x6_30 + 1))), (by first | rfl | (simp; done) | (simp [*]; done)), H', ⟨by have := HJ2.out; have := HJ8.out; have := HJ16.out; have := HJ20.out; have := HJ30.out; have := HJ34.out; have := HJ44.out; first | omega | exact Nat.le_refl _⟩, ⟨by repeat (first | (with_reducible first | exact HI0.out | apply wA | apply wN | apply wD | apply w_0 | apply w_1 | apply w_2 | apply w_3) | exact HI0.out)⟩, ⟨by repeat (first | (with_reducible first | exact HK.out | apply yK | apply zk | apply zl9 | apply zm) | exact HK.out)⟩, ⟨by repeat (first | (with_reducible first | exact HB.out | apply zA | apply zN | apply zD | refine zq9 ?_ (wG HI0.out)) | exact HB.out)⟩⟩
                   case rest =>
                    clear HC55
                    obtain ⟨kq, x7_54, rfl, HA, HJ54, HI0, HK, HB⟩ := hcut
                    cases kq with
                    | zero => exact absurd HA.out (by simp [T_number.j7])
                    | succ kj54 =>
                     have H := HA.out
                     clear HA
                     simp only [T_number.j7] at H
                     replace H := yO H
                     obtain ⟨⟨t280, t281, t282, t283, t284⟩, A570, H⟩ := H
                     replace H : (if t280 > x7_54 then ((T_run.f kj54 t281 t282 t283 t284 x7_54).bind fun bt285 => (some (bt285.1, bt285.2.1, bt285.2.2.1, bt285.2.2.2.1, bt285.2.2.2.2))) else (some (x6_30, t281, t282, t283, t284))) = some (r1, r2, r3, r4, r5) := H
                     have A57 := yM A570
                     clear A570
                     by_cases c58 : t280 > x7_54
                     ·rw [if_pos c58] at H
                      have c58b0 : decide (x7_54 < t280) = true := decide_eq_true c58
                      clear c58
                      replace H := yO H
                      obtain ⟨⟨t285, t286, t287, t288, t289⟩, A590, H⟩ := H
                      replace H : (some (t285, t286, t287, t288, t289)) = some (r1, r2, r3, r4, r5) := H
                      have A59 := yM A590
                      clear A590
                      simp only [Option.some.injEq, Prod.mk.injEq] at H
                      obtain ⟨rfl, rfl, rfl, rfl, rfl⟩ := H
                      go_wp2_with (first | ((with_reducible refine gate_callee (f := 65) rfl ?_); refine goesL_ (some 128) rfl rfl Tryd.func65 (by kernel_rfl) rfl #[.pointer (some ⟨g, 0, none⟩), .int .i64 x7_54] rfl (by (try simp only [List.map_toArray, List.map_cons, List.map_nil]); first | done | rfl | (simp only [List.length_drop, List.length_take]; rfl)) ?_; (with_reducible refine (T_run.calls kj54 g x1000_30 x1001_30 x1002_30 x1003_30 x7_54 t280 t281 t282 t283 t284 w0 _ ?side1 ?side2 A57.out).mono ?_); (case side1 => repeat (first | (with_reducible first | exact HI0.out | apply wA | apply wN | apply wD | apply w_0 | apply w_1 | apply w_2 | apply w_3) | exact HI0.out)); (case side2 => repeat (first | (with_reducible first | exact HB.out | apply zA | apply zN | apply zD | refine zq9 ?_ (wG HI0.out)) | exact HB.out)); rintro e w60 ⟨rfl, hi, hb, hk⟩; refine ⟨_, rfl, ?_⟩; have n0_ := yM (KeepBut.trans (by repeat (first | (with_reducible first | exact HK.out | apply yK | apply zk | apply zl9 | apply zm) | exact HK.out)) hk (.inl rfl)); have n1_ := yM (hb); have n2_ := yM (hi); clear HK; clear HB; clear HI0; have HK := n0_; have HB := n1_; have HI0 := n2_; clear n0_ n1_ n2_; (try clear hb); (try clear hb2); (try clear hk); (try clear hi)) | ((with_reducible refine gate_callee (f := 65) rfl ?_); refine goesL_ (some 133) rfl rfl Tryd.func65 (by kernel_rfl) rfl #[.pointer (some ⟨g, 0, none⟩), .int .i64 x7_54] rfl (by (try simp only [List.map_toArray, List.map_cons, List.map_nil]); first | done | rfl | (simp only [List.length_drop, List.length_take]; rfl)) ?_; (with_reducible refine (T_run.calls kj54 g t281 t282 t283 t284 x7_54 t285 t286 t287 t288 t289 w0 _ ?side1 ?side2 A59.out).mono ?_); (case side1 => repeat (first | (with_reducible first | exact HI0.out | apply wA | apply wN | apply wD | apply w_0 | apply w_1 | apply w_2 | apply w_3) | exact HI0.out)); (case side2 => repeat (first | (with_reducible first | exact HB.out | apply zA | apply zN | apply zD | refine zq9 ?_ (wG HI0.out)) | exact HB.out)); rintro e w61 ⟨rfl, hi, hb, hk⟩; refine ⟨_, rfl, ?_⟩; have n0_ := yM (KeepBut.trans (by repeat (first | (with_reducible first | exact HK.out | apply yK | apply zk | apply zl9 | apply zm) | exact HK.out)) hk (.inl rfl)); have n1_ := yM (hb); have n2_ := yM (hi); clear HK; clear HB; clear HI0; have HK := n0_; have HB := n1_; have HI0 := n2_; clear n0_ n1_ n2_; (try clear hb); (try clear hb2); (try clear hk); (try clear hi)))
                      go_ret
                      exact ⟨by first | rfl | (simp [errW_none, errW_some] <;> rfl) | (simp [*, errW_none, errW_some] <;> rfl), by repeat (first | (with_reducible first | exact HI0.out | apply wA | apply wN | apply wD | apply w_0 | apply w_1 | apply w_2 | apply w_3) | exact HI0.out), by repeat (first | (with_reducible first | exact HB.out | apply zA | apply zN | apply zD | refine zq9 ?_ (wG HI0.out)) | exact HB.out), by repeat (first | (with_reducible first | exact HK.out | apply yK | apply zk | apply zl9 | apply zm) | exact HK.out)⟩
                     ·rw [if_neg c58] at H
                      have c58b0 : decide (x7_54 < t280) = false := decide_eq_false c58
                      clear c58
                      simp only [Option.some.injEq, Prod.mk.injEq] at H
                      obtain ⟨rfl, rfl, rfl, rfl, rfl⟩ := H
                      go_wp2_with (first | ((with_reducible refine gate_callee (f := 65) rfl ?_); refine goesL_ (some 128) rfl rfl Tryd.func65 (by kernel_rfl) rfl #[.pointer (some ⟨g, 0, none⟩), .int .i64 x7_54] rfl (by (try simp only [List.map_toArray, List.map_cons, List.map_nil]); first | done | rfl | (simp only [List.length_drop, List.length_take]; rfl)) ?_; (with_reducible refine (T_run.calls kj54 g x1000_30 x1001_30 x1002_30 x1003_30 x7_54 t280 t281 t282 t283 t284 w0 _ ?side1 ?side2 A57.out).mono ?_); (case side1 => repeat (first | (with_reducible first | exact HI0.out | apply wA | apply wN | apply wD | apply w_0 | apply w_1 | apply w_2 | apply w_3) | exact HI0.out)); (case side2 => repeat (first | (with_reducible first | exact HB.out | apply zA | apply zN | apply zD | refine zq9 ?_ (wG HI0.out)) | exact HB.out)); rintro e w62 ⟨rfl, hi, hb, hk⟩; refine ⟨_, rfl, ?_⟩; have n0_ := yM (KeepBut.trans (by repeat (first | (with_reducible first | exact HK.out | apply yK | apply zk | apply zl9 | apply zm) | exact HK.out)) hk (.inl rfl)); have n1_ := yM (hb); have n2_ := yM (hi); clear HK; clear HB; clear HI0; have HK := n0_; have HB := n1_; have HI0 := n2_; clear n0_ n1_ n2_; (try clear hb); (try clear hb2); (try clear hk); (try clear hi)))
                      go_ret
                      exact ⟨by first | rfl | (simp [errW_none, errW_some] <;> rfl) | (simp [*, errW_none, errW_some] <;> rfl), by repeat (first | (with_reducible first | exact HI0.out | apply wA | apply wN | apply wD | apply w_0 | apply w_1 | apply w_2 | apply w_3) | exact HI0.out), by repeat (first | (with_reducible first | exact HB.out | apply zA | apply zN | apply zD | refine zq9 ?_ (wG HI0.out)) | exact HB.out), by repeat (first | (with_reducible first | exact HK.out | apply yK | apply zk | apply zl9 | apply zm) | exact HK.out)⟩
                ·replace c44 := Bool.eq_false_iff.mpr c44
                 subst c44
                 have H1 : (some (x6_30, x1000_30, x1001_30, x1002_30, x1003_30)) = some (r1, r2, r3, r4, r5) := by rw [if_neg (show ¬ (false = true) by decide)] at H; exact H
                 clear H
                 have H := H1
                 clear H1
                 simp only [Option.some.injEq, Prod.mk.injEq] at H
                 obtain ⟨rfl, rfl, rfl, rfl, rfl⟩ := H
                 go_wp2
                 go_ret
                 exact ⟨by first | rfl | (simp [errW_none, errW_some] <;> rfl) | (simp [*, errW_none, errW_some] <;> rfl), by repeat (first | (with_reducible first | exact HI0.out | apply wA | apply wN | apply wD | apply w_0 | apply w_1 | apply w_2 | apply w_3) | exact HI0.out), by repeat (first | (with_reducible first | exact HB.out | apply zA | apply zN | apply zD | refine zq9 ?_ (wG HI0.out)) | exact HB.out), by repeat (first | (with_reducible first | exact HK.out | apply yK | apply zk | apply zl9 | apply zm) | exact HK.out)⟩
       ·rw [if_neg c15] at H
        exact absurd H (by simp)
      ·rw [if_neg c14] at H
       exact absurd H (by simp)
end Go.Proofs.YtbpiahpkbapijaaDoor.J
end
