/- Lemmas and walks for the claim; no condition beyond what each states. -/
import Derived.Test.YtbpiahpkbapijaaDoorQ5
section
namespace Go.Proofs.YtbpiahpkbapijaaDoor.J
open Go.RowKit Go.Proofs.YtbpiahpkbapijaaDoorW.PrintWords Go.Proofs.YtbpiahpkbapijaaDoorW.PrintLast Go.Proofs.YtbpiahpkbapijaaDoorW.PrintMore
attribute [local go_sem] max2_int min2_int max_two min_two max_three min_three max_four min_four
set_option linter.unusedVariables false
set_option linter.unusedSimpArgs false
theorem own_ne_ {W : World} {B e T n : Nat} {sz : Nat} {v : Value} {xs : List Value} {g : Nat} {cs : Array Value} {fr : Nat × Nat} (h : W.ownsRow B e sz v n xs) (hb : W.heap[g]? = some (.cells cs T fr)) (hT : T ≠ e) : v.ownBlock ≠ some g := by
 rcases h.2 with ⟨rfl, _⟩ | ⟨q, cap, cur, rfl, _, hg, _⟩
 ·simp [Value.ownBlock]
 ·intro e
  obtain rfl : q = g := Option.some.inj e
  rw [hg] at hb
  simp only [Option.some.injEq, Obj.cells.injEq] at hb
  exact hT hb.2.1.symm
theorem own_two_ {W : World} {B n : Nat} {v : Value} {xs : List Value} {g b : Nat} {cs cs' : Array Value} (h : W.ownsRow B 5 1 v n xs) (hg : W.heap[g]? = some (.cells cs 79 (0, 0))) (hb : W.heap[b]? = some (.cells cs' 67 (0, 0))) (j k : Nat) (u u' : Value) : ((W.setCell ⟨g, j, none⟩ u).setCell ⟨b, k, none⟩ u').ownsRow B 5 1 v n xs := by
 have h1 := own_ne_ h hg (by decide)
 have h2 := own_ne_ h hb (by decide)
 refine own_move h (fun q hq => ?_)
 rw [Below.heap_setCell _ ⟨b, k, none⟩ _ q (fun e => h2 (by rw [hq]; exact congrArg some e)), Below.heap_setCell _ ⟨g, j, none⟩ _ q (fun e => h1 (by rw [hq]; exact congrArg some e))]
mutual
def T_text.l0 : Nat → List Int → Int → ByteArray → Int → Int → Int → Int → Int → Int → ByteArray → Option (Int × Int × Int × ByteArray × (List (S67)) × (List (S67)) × ByteArray × Int × Int × Int)
 | 0, _, _, _, _, _, _, _, _, _, _ => none
 | k + 1, x4, x5, x1000, x1001, x1002, x1003, x163000, x163001, x163002, x163003 => if x5 < (x1000.size : Int) then (if 0 ≤ x5 then (T_text.j1 k x4 x5 ((bt x1000 x5) != 34) x1000 x1001 x1002 x1003 x163000 x163001 x163002 x163003) else (none)) else (T_text.j1 k x4 x5 false x1000 x1001 x1002 x1003 x163000 x163001 x163002 x163003)
def T_text.j1 : Nat → List Int → Int → Bool → ByteArray → Int → Int → Int → Int → Int → Int → ByteArray → Option (Int × Int × Int × ByteArray × (List (S67)) × (List (S67)) × ByteArray × Int × Int × Int)
 | 0, _, _, _, _, _, _, _, _, _, _, _ => none
 | k + 1, x4, x5, x33, x1000, x1001, x1002, x1003, x163000, x163001, x163002, x163003 => if x33 = true then (if 0 ≤ x5 then (if x5 < (x1000.size : Int) then (if (bt x1000 x5) < 32 then (if x5 ≥ (x1000.size : Int) then ((T_fail.f x1000 x1001 x1002 x1003 125 x1001).bind fun bt171 => (some (x163000, x163001, x163002, x163003, ([] : List (S67)), ([] : List (S67)), bt171.1, bt171.2.1, bt171.2.2.1, bt171.2.2.2))) else (if (bt x1000 x5) = 34 then (some (x163000, x163001, wrap64 (x5 + 1), strOfNums x4, ([] : List (S67)), ([] : List (S67)), x1000, wrap64 (x5 + 1), x1002, x1003)) else ((T_fail.f x1000 x1001 x1002 x1003 125 x1001).bind fun bt175 => (some (x163000, x163001, x163002, x163003, ([] : List (S67)), ([] : List (S67)), bt175.1, bt175.2.1, bt175.2.2.1, bt175.2.2.2))))) else (if (bt x1000 x5) = 92 then ((T_escape.f k x1000 x1001 x1002 x1003 x4 x5).bind fun bt179 => (if bt179.2.1 = 0 then (if x5 ≥ (bt179.2.2.1.size : Int) then ((T_fail.f bt179.2.2.1 bt179.2.2.2.1 bt179.2.2.2.2.1 bt179.2.2.2.2.2 125 bt179.2.2.2.1).bind fun bt187 => (some (x163000, x163001, x163002, x163003, ([] : List (S67)), ([] : List (S67)), bt187.1, bt187.2.1, bt187.2.2.1, bt187.2.2.2))) else (if x5 < (bt179.2.2.1.size : Int) then (if (bt bt179.2.2.1 x5) = 34 then (none) else ((T_fail.f bt179.2.2.1 bt179.2.2.2.1 bt179.2.2.2.2.1 bt179.2.2.2.2.2 125 bt179.2.2.2.1).bind fun bt191 => (some (x163000, x163001, x163002, x163003, ([] : List (S67)), ([] : List (S67)), bt191.1, bt191.2.1, bt191.2.2.1, bt191.2.2.2)))) else (none))) else (T_text.l0 k bt179.1 bt179.2.1 bt179.2.2.1 bt179.2.2.2.1 bt179.2.2.2.2.1 bt179.2.2.2.2.2 x163000 x163001 x163002 x163003))) else (if x4.length < 140737488355328 then (T_text.l0 k (x4 ++ [bt x1000 x5]) (wrap64 (x5 + 1)) x1000 x1001 x1002 x1003 x163000 x163001 x163002 x163003) else (none)))) else (none)) else (none)) else (if x5 ≥ (x1000.size : Int) then ((T_fail.f x1000 x1001 x1002 x1003 125 x1001).bind fun bt163 => (some (x163000, x163001, x163002, x163003, ([] : List (S67)), ([] : List (S67)), bt163.1, bt163.2.1, bt163.2.2.1, bt163.2.2.2))) else (if 0 ≤ x5 then (if x5 < (x1000.size : Int) then (if (bt x1000 x5) = 34 then (some (x163000, x163001, wrap64 (x5 + 1), strOfNums x4, ([] : List (S67)), ([] : List (S67)), x1000, wrap64 (x5 + 1), x1002, x1003)) else ((T_fail.f x1000 x1001 x1002 x1003 125 x1001).bind fun bt167 => (some (x163000, x163001, x163002, x163003, ([] : List (S67)), ([] : List (S67)), bt167.1, bt167.2.1, bt167.2.2.1, bt167.2.2.2)))) else (none)) else (none)))
end
def T_text.f (k : Nat) (s0_0 : ByteArray) (s0_1 : Int) (s0_2 : Int) (s0_3 : Int) : Option (Int × Int × Int × ByteArray × (List (S67)) × (List (S67)) × ByteArray × Int × Int × Int) := T_text.l0 k ([] : List Int) (wrap64 (s0_1 + 1)) s0_0 s0_1 s0_2 s0_3 3 s0_1 0 (⟨#[]⟩ : ByteArray)
set_option maxHeartbeats 8000000 in
set_option maxRecDepth 100000 in
theorem T_text.calls (k : Nat) (g : Nat) (s0_0 : ByteArray) (s0_1 : Int) (s0_2 : Int) (s0_3 : Int) (r1 : Int) (r2 : Int) (r3 : Int) (r4 : ByteArray) (r5 : List (S67)) (r6 : List (S67)) (r7 : ByteArray) (r8 : Int) (r9 : Int) (r10 : Int) (w0 w : World) (hI : IsS79 w0 w g s0_0 s0_1 s0_2 s0_3) (hB : Below w0.heap.size w0 w) (h : T_text.f k s0_0 s0_1 s0_2 s0_3 = some (r1, r2, r3, r4, r5, r6, r7, r8, r9, r10)) :
  Calls Tryd.prog 45 #[.pointer (some ⟨g, 0, none⟩)] w fun e w' => ∃ v4_ v5_ : Value, e = .returned (.agg #[.int .i64 r1, .int .i64 r2, .int .i64 r3, .string r4, v4_, v5_]) ∧ Kd.R k67 67 w' w.heap.size (fun k_ => some k_ ≠ (v5_ : Value).ownBlock) v4_ r5 ∧ Kd.R k67 67 w' w.heap.size (fun k_ => some k_ ≠ (v4_ : Value).ownBlock) v5_ r6 ∧ IsS79 w0 w' g r7 r8 r9 r10 ∧ Below w0.heap.size w0 w' ∧ KeepBut w w' g none := by
 have hu67 := Tryd.underlying67
 have HI0 := yM hI
 have HK := yM (KeepBut.refl w g none)
 have HL := yM hB.size
 clear hI
 have HW0 := yM hB.size
 have HB := yM hB
 clear hB
 have H : (T_text.l0 k ([] : List Int) (wrap64 (s0_1 + 1)) s0_0 s0_1 s0_2 s0_3 3 s0_1 0 (⟨#[]⟩ : ByteArray)) = some (r1, r2, r3, r4, r5, r6, r7, r8, r9, r10) := h
 clear h
 have H' := yM H
 clear H
 go_enter Tryd.func45, Tryd.ntmps45
 go_wp2_with (first | ((with_reducible refine gate_dst (N := 2) rfl ?_); refine box_event ?hg (N := 2) ?hd (cs := #[.int .i64 0, .int .i64 0, .int .i64 0, .string (⟨#[]⟩ : ByteArray), .slice none 0 0, .slice none 0 0]) (t := 67) ?hr ?_; (case hd => rfl); (case hg => rfl); (case hr => first | (go_simp; done) | (go_simp; rfl)); intro gb161 hg w2 hbox hb; have n0_ := yM (IsS79.below (by repeat (first | (with_reducible first | exact HI0.out | apply wA | apply wN | apply wD | apply w_0 | apply w_1 | apply w_2 | apply w_3) | exact HI0.out)) hb); have n1_ := yM (KeepBut.trans (by repeat (first | (with_reducible first | exact HK.out | apply yK | apply zk | apply zl9 | apply zm) | exact HK.out)) (KeepBut.of_below hb g none) (.inl rfl)); have n2_ := yM (below_step (by repeat (first | (with_reducible first | exact HB.out | apply zA | apply zN | apply zD | refine zq9 ?_ (wG HI0.out)) | exact HB.out)) hb); have n3_ := yM (hbox); have n4_ := yM ((by rw [hg]; exact (keep_size (w := w) (g := g) (row := none) (by repeat (first | (with_reducible first | exact HK.out | apply yK | apply zk | apply zl9 | apply zm) | exact HK.out))) : w.heap.size ≤ gb161)); have n5_ := yM ((Nat.le_trans HW0.out (by rw [hg]; exact (keep_size (w := w) (g := g) (row := none) (by repeat (first | (with_reducible first | exact HK.out | apply yK | apply zk | apply zl9 | apply zm) | exact HK.out))) : w.heap.size ≤ gb161) : w0.heap.size ≤ gb161)); have n6_ := yM ((by rw [hg]; exact Nat.ne_of_lt (IsS79.lt (show IsS79 w0 _ g s0_0 s0_1 s0_2 s0_3 from by repeat (first | (with_reducible first | exact HI0.out | apply wA | apply wN | apply wD | apply w_0 | apply w_1 | apply w_2 | apply w_3) | exact HI0.out))) : g ≠ gb161)); have n7_ := yM ((by rw [hg]; exact Nat.ne_of_gt (IsS79.lt (show IsS79 w0 _ g s0_0 s0_1 s0_2 s0_3 from by repeat (first | (with_reducible first | exact HI0.out | apply wA | apply wN | apply wD | apply w_0 | apply w_1 | apply w_2 | apply w_3) | exact HI0.out))) : gb161 ≠ g)); clear HI0; clear HK; clear HB; have HI0 := n0_; have HK := n1_; have HB := n2_; have BK161 := n3_; have GW161 := n4_; have GE161 := n5_; have NB0_161 := n6_; have NB161_0 := n7_; clear n0_ n1_ n2_ n3_ n4_ n5_ n6_ n7_; clear hb hbox hg; obtain ⟨HGz3, hgz3⟩ := HI0.out; have hcz3_0 := cellS79_0 HGz3; have hcz3_1 := cellS79_1 HGz3; have hcz3_2 := cellS79_2 HGz3; have hcz3_3 := cellS79_3 HGz3; have hfz3_0 := yF HGz3 0; have hfz3_1 := yF HGz3 1; have hfz3_2 := yF HGz3 2; have hfz3_3 := yF HGz3 3; clear HGz3 hgz3) | ((with_reducible refine gate_dst (N := 3) rfl ?_); refine box_event ?hg (N := 3) ?hd (cs := #[.int .i64 0, .int .i64 0, .int .i64 0, .string (⟨#[]⟩ : ByteArray), .slice none 0 0, .slice none 0 0]) (t := 67) ?hr ?_; (case hd => rfl); (case hg => rfl); (case hr => first | (go_simp; done) | (go_simp; rfl)); intro gb162 hg w4 hbox hb; have n0_ := yM (IsS79.below (by repeat (first | (with_reducible first | exact HI0.out | apply wA | apply wN | apply wD | apply w_0 | apply w_1 | apply w_2 | apply w_3 | refine wR ?_ NB0_161.out _) | exact HI0.out)) hb); have n1_ := yM (blk_below (g := gb161) (o := .cells #[.int .i64 0, .int .i64 0, .int .i64 0, .string (⟨#[]⟩ : ByteArray), .slice none 0 0, .slice none 0 0] 67 (0, 0)) (by (with_reducible repeat (first | refine yN ?_ _ | refine yD ?_ | refine yA ?_ _)); exact BK161.out) hb); have n2_ := yM (KeepBut.trans (by repeat (first | (with_reducible first | exact HK.out | apply yK | apply zk | apply zl9 | apply zm | refine keep_far ?_ GW161.out _) | exact HK.out)) (KeepBut.of_below hb g none) (.inl rfl)); have n3_ := yM (below_step (by repeat (first | (with_reducible first | exact HB.out | apply zA | apply zN | apply zD | refine zq9 ?_ (wG HI0.out) | refine zq9 ?_ GE161.out) | exact HB.out)) hb); have n4_ := yM (hbox); have n5_ := yM ((by rw [hg]; exact (keep_size (w := w) (g := g) (row := none) (by repeat (first | (with_reducible first | exact HK.out | apply yK | apply zk | apply zl9 | apply zm | refine keep_far ?_ GW161.out _) | exact HK.out))) : w.heap.size ≤ gb162)); have n6_ := yM ((Nat.le_trans HW0.out (by rw [hg]; exact (keep_size (w := w) (g := g) (row := none) (by repeat (first | (with_reducible first | exact HK.out | apply yK | apply zk | apply zl9 | apply zm | refine keep_far ?_ GW161.out _) | exact HK.out))) : w.heap.size ≤ gb162) : w0.heap.size ≤ gb162)); have n7_ := yM ((by rw [hg]; exact Nat.ne_of_lt (blk_lt (g := gb161) (o := .cells #[.int .i64 0, .int .i64 0, .int .i64 0, .string (⟨#[]⟩ : ByteArray), .slice none 0 0, .slice none 0 0] 67 (0, 0)) (by (with_reducible repeat (first | refine yN ?_ _ | refine yD ?_ | refine yA ?_ _)); exact BK161.out)) : gb161 ≠ gb162)); have n8_ := yM ((by rw [hg]; exact Nat.ne_of_gt (blk_lt (g := gb161) (o := .cells #[.int .i64 0, .int .i64 0, .int .i64 0, .string (⟨#[]⟩ : ByteArray), .slice none 0 0, .slice none 0 0] 67 (0, 0)) (by (with_reducible repeat (first | refine yN ?_ _ | refine yD ?_ | refine yA ?_ _)); exact BK161.out)) : gb162 ≠ gb161)); have n9_ := yM ((by rw [hg]; exact Nat.ne_of_lt (IsS79.lt (show IsS79 w0 _ g s0_0 s0_1 s0_2 s0_3 from by repeat (first | (with_reducible first | exact HI0.out | apply wA | apply wN | apply wD | apply w_0 | apply w_1 | apply w_2 | apply w_3 | refine wR ?_ NB0_161.out _) | exact HI0.out))) : g ≠ gb162)); have n10_ := yM ((by rw [hg]; exact Nat.ne_of_gt (IsS79.lt (show IsS79 w0 _ g s0_0 s0_1 s0_2 s0_3 from by repeat (first | (with_reducible first | exact HI0.out | apply wA | apply wN | apply wD | apply w_0 | apply w_1 | apply w_2 | apply w_3 | refine wR ?_ NB0_161.out _) | exact HI0.out))) : gb162 ≠ g)); clear HI0; clear BK161; clear HK; clear HB; have HI0 := n0_; have BK161 := n1_; have HK := n2_; have HB := n3_; have BK162 := n4_; have GW162 := n5_; have GE162 := n6_; have NB161_162 := n7_; have NB162_161 := n8_; have NB0_162 := n9_; have NB162_0 := n10_; clear n0_ n1_ n2_ n3_ n4_ n5_ n6_ n7_ n8_ n9_ n10_; clear hb hbox hg; have hnb5 := NB162_161.out; have hnc5 := NB161_162.out; have hnb6 := NB162_0.out; have hnc6 := NB0_162.out; have hcz7_0 : w4.cell? ⟨gb162, 0, none⟩ = some (.int .i64 0) := (yC BK162.out 0).trans rfl; have hcz7_1 : w4.cell? ⟨gb162, 1, none⟩ = some (.int .i64 0) := (yC BK162.out 1).trans rfl; have hcz7_2 : w4.cell? ⟨gb162, 2, none⟩ = some (.int .i64 0) := (yC BK162.out 2).trans rfl; have hcz7_3 : w4.cell? ⟨gb162, 3, none⟩ = some (.string (⟨#[]⟩ : ByteArray)) := (yC BK162.out 3).trans rfl; have hcz7_4 : w4.cell? ⟨gb162, 4, none⟩ = some (.slice none 0 0) := (yC BK162.out 4).trans rfl; have hcz7_5 : w4.cell? ⟨gb162, 5, none⟩ = some (.slice none 0 0) := (yC BK162.out 5).trans rfl; have hfz7_0 := yF BK162.out 0; have hfz7_1 := yF BK162.out 1; have hfz7_2 := yF BK162.out 2; have hfz7_3 := yF BK162.out 3; have hfz7_4 := yF BK162.out 4; have hfz7_5 := yF BK162.out 5; obtain ⟨HGz8, hgz8⟩ := HI0.out; have hcz8_0 := cellS79_0 HGz8; have hcz8_1 := cellS79_1 HGz8; have hcz8_2 := cellS79_2 HGz8; have hcz8_3 := cellS79_3 HGz8; have hfz8_0 := yF HGz8 0; have hfz8_1 := yF HGz8 1; have hfz8_2 := yF HGz8 2; have hfz8_3 := yF HGz8 3; clear HGz8 hgz8))
 go_loopg [4, 5] k (fun kq v4 v5 w' => ∃ (x4_1 : List Int) (x5_1 : Int) (x1000_1 : ByteArray) (x1001_1 : Int) (x1002_1 : Int) (x1003_1 : Int), v5 = .int .i64 x5_1 ∧ Aside0 (T_text.l0 kq x4_1 x5_1 x1000_1 x1001_1 x1002_1 x1003_1 3 s0_1 0 (⟨#[]⟩ : ByteArray) = some (r1, r2, r3, r4, r5, r6, r7, r8, r9, r10)) ∧ Aside0 (kq ≤ k) ∧ Aside0 (Kd.R (Kd.int .u8) 5 w' w.heap.size (fun _ => True) v4 x4_1) ∧ Aside0 (w'.heap[gb161]? = some (.cells #[.int .i64 0, .int .i64 0, .int .i64 0, .string (⟨#[]⟩ : ByteArray), (.slice none 0 0), (.slice none 0 0)] 67 (0, 0))) ∧ Aside0 (w'.heap[gb162]? = some (.cells #[.int .i64 3, .int .i64 s0_1, .int .i64 0, .string (⟨#[]⟩ : ByteArray), (.slice none 0 0), (.slice none 0 0)] 67 (0, 0))) ∧ Aside0 (IsS79 w0 w' g x1000_1 x1001_1 x1002_1 x1003_1) ∧ Aside0 (KeepBut w w' g none) ∧ Aside0 (Below w0.heap.size w0 w'))
 case atStart => exact ⟨(([] : List Int)), (wrap64 (s0_1 + 1)), (s0_0), (s0_1), (s0_2), (s0_3), (by first | rfl | (simp; done) | (simp [*]; done)), H', ⟨Nat.le_refl _⟩, ⟨by first | exact Kd.R_nil _ _ _ _ _ | exact Kd.N_nil _ _ _ _ _ | exact Kd.V_nil _ _ _ _ _ | exact Kd.Q_nil _ _ _ _ _ | exact Kd.S_nil _ _ _ _ _⟩, ⟨by (with_reducible repeat (first | refine yN ?_ _ | refine yD ?_ | refine yA ?_ _)); refine yR ?_ NB161_162.out _; (with_reducible repeat (first | refine yN ?_ _ | refine yD ?_ | refine yA ?_ _)); refine yR ?_ NB161_162.out _; (with_reducible repeat (first | refine yN ?_ _ | refine yD ?_ | refine yA ?_ _)); refine yR ?_ NB161_162.out _; (with_reducible repeat (first | refine yN ?_ _ | refine yD ?_ | refine yA ?_ _)); refine yR ?_ NB161_162.out _; (with_reducible repeat (first | refine yN ?_ _ | refine yD ?_ | refine yA ?_ _)); refine yR ?_ NB161_162.out _; (with_reducible repeat (first | refine yN ?_ _ | refine yD ?_ | refine yA ?_ _)); refine yR ?_ NB161_162.out _; (with_reducible repeat (first | refine yN ?_ _ | refine yD ?_ | refine yA ?_ _)); exact BK161.out⟩, ⟨by (with_reducible repeat (first | refine yN ?_ _ | refine yD ?_ | refine yA ?_ _)); refine blk_put (cs := #[.int .i64 3, .int .i64 s0_1, .int .i64 0, .string (⟨#[]⟩ : ByteArray), .slice none 0 0, .slice none 0 0]) ?_ 5 _ rfl; (with_reducible repeat (first | refine yN ?_ _ | refine yD ?_ | refine yA ?_ _)); refine blk_put (cs := #[.int .i64 3, .int .i64 s0_1, .int .i64 0, .string (⟨#[]⟩ : ByteArray), .slice none 0 0, .slice none 0 0]) ?_ 4 _ rfl; (with_reducible repeat (first | refine yN ?_ _ | refine yD ?_ | refine yA ?_ _)); refine blk_put (cs := #[.int .i64 3, .int .i64 s0_1, .int .i64 0, .string (⟨#[]⟩ : ByteArray), .slice none 0 0, .slice none 0 0]) ?_ 3 _ rfl; (with_reducible repeat (first | refine yN ?_ _ | refine yD ?_ | refine yA ?_ _)); refine blk_put (cs := #[.int .i64 3, .int .i64 s0_1, .int .i64 0, .string (⟨#[]⟩ : ByteArray), .slice none 0 0, .slice none 0 0]) ?_ 2 _ rfl; (with_reducible repeat (first | refine yN ?_ _ | refine yD ?_ | refine yA ?_ _)); refine blk_put (cs := #[.int .i64 3, .int .i64 0, .int .i64 0, .string (⟨#[]⟩ : ByteArray), .slice none 0 0, .slice none 0 0]) ?_ 1 _ rfl; (with_reducible repeat (first | refine yN ?_ _ | refine yD ?_ | refine yA ?_ _)); refine blk_put (cs := #[.int .i64 0, .int .i64 0, .int .i64 0, .string (⟨#[]⟩ : ByteArray), .slice none 0 0, .slice none 0 0]) ?_ 0 _ rfl; (with_reducible repeat (first | refine yN ?_ _ | refine yD ?_ | refine yA ?_ _)); exact BK162.out⟩, ⟨by repeat (first | (with_reducible first | exact HI0.out | apply wA | apply wN | apply wD | apply w_0 | apply w_1 | apply w_2 | apply w_3 | refine wR ?_ NB0_161.out _ | refine wR ?_ NB0_162.out _) | exact HI0.out)⟩, ⟨by repeat (first | (with_reducible first | exact HK.out | apply yK | apply zk | apply zl9 | apply zm | refine keep_far ?_ GW161.out _ | refine keep_far ?_ GW162.out _) | exact HK.out)⟩, ⟨by repeat (first | (with_reducible first | exact HB.out | apply zA | apply zN | apply zD | refine zq9 ?_ (wG HI0.out) | refine zq9 ?_ GE161.out | refine zq9 ?_ GE162.out) | exact HB.out)⟩⟩
 case round =>
  clear H'
  try clear p2
  try clear c4
  try clear c5
  try clear c6
  try clear p6
  try clear hcz3_0
  try clear hcz3_1
  try clear hcz3_2
  try clear hcz3_3
  try clear hcz7_0
  try clear hcz7_1
  try clear hcz7_2
  try clear hcz7_3
  try clear hcz7_4
  try clear hcz7_5
  try clear hcz8_0
  try clear hcz8_1
  try clear hcz8_2
  try clear hcz8_3
  try clear hfz3_0
  try clear hfz3_1
  try clear hfz3_2
  try clear hfz3_3
  try clear hfz7_0
  try clear hfz7_1
  try clear hfz7_2
  try clear hfz7_3
  try clear hfz7_4
  try clear hfz7_5
  try clear hfz8_0
  try clear hfz8_1
  try clear hfz8_2
  try clear hfz8_3
  obtain ⟨x4_1, x5_1, x1000_1, x1001_1, x1002_1, x1003_1, rfl, HA, HK1, HO_4, BK161, BK162, HI0, HK, HB⟩ := hrel
  cases gk with
  | zero => exact absurd HA.out (by simp [T_text.l0])
  | succ k1 =>
   have H := HA.out
   clear HA
   simp only [T_text.l0] at H
   have HC9 := yM H
   clear H
   go_upto_region 4 with (fail)
   go_cut [33] (fun v33 wc => ∃ (kq : Nat) (x33_8 : Bool), v33 = .bool x33_8 ∧ Aside0 (T_text.j1 kq x4_1 x5_1 x33_8 x1000_1 x1001_1 x1002_1 x1003_1 3 s0_1 0 (⟨#[]⟩ : ByteArray) = some (r1, r2, r3, r4, r5, r6, r7, r8, r9, r10)) ∧ Aside0 (kq ≤ k1) ∧ Aside0 (Kd.R (Kd.int .u8) 5 wc w.heap.size (fun _ => True) u4 x4_1) ∧ Aside0 (wc.heap[gb161]? = some (.cells #[.int .i64 0, .int .i64 0, .int .i64 0, .string (⟨#[]⟩ : ByteArray), (.slice none 0 0), (.slice none 0 0)] 67 (0, 0))) ∧ Aside0 (wc.heap[gb162]? = some (.cells #[.int .i64 3, .int .i64 s0_1, .int .i64 0, .string (⟨#[]⟩ : ByteArray), (.slice none 0 0), (.slice none 0 0)] 67 (0, 0))) ∧ Aside0 (IsS79 w0 wc g x1000_1 x1001_1 x1002_1 x1003_1) ∧ Aside0 (KeepBut w wc g none) ∧ Aside0 (Below w0.heap.size w0 wc))
   case first =>
    have H := HC9.out
    clear HC9
    by_cases c10 : x5_1 < (x1000_1.size : Int)
    ·rw [if_pos c10] at H
     have c10b0 : decide (x5_1 < (x1000_1.size : Int)) = true := decide_eq_true c10
     clear c10
     (first | rw [c10b0] | (simp only [i64_w, i32_w]; rw [c10b0]) | skip)
     by_cases c11 : 0 ≤ x5_1
     ·rw [if_pos c11] at H
      have c11b0 : decide (0 ≤ x5_1) = true := decide_eq_true c11
      clear c11
      have H' := yM H
      clear H
      obtain ⟨HGz13, hgz13⟩ := HI0.out
      have hcz13_0 := cellS79_0 HGz13
      have hcz13_1 := cellS79_1 HGz13
      have hcz13_2 := cellS79_2 HGz13
      have hcz13_3 := cellS79_3 HGz13
      have hfz13_0 := yF HGz13 0
      have hfz13_1 := yF HGz13 1
      have hfz13_2 := yF HGz13 2
      have hfz13_3 := yF HGz13 3
      clear HGz13 hgz13
      have p12 : 0 ≤ (x5_1 : Int) := yQ (by first | (with_reducible assumption) | assumption)
      have q12 : x5_1 < (x1000_1.size : Int) := yQ (by first | (with_reducible assumption) | assumption)
      have hx12 := bt_at x1000_1 x5_1
      replace p12 := eq_true p12
      replace q12 := eq_true q12
      go_wp2
      go_meet
      case rel => exact ⟨_, (((bt x1000_1 x5_1) != 34)), (by first | rfl | (simp; done) | (simp [*]; done)), H', ⟨by have := HK1.out; first | omega | exact Nat.le_refl _⟩, ⟨by (with_reducible repeat (first | apply Kd.R_alloc | apply Kd.R_drewN | apply Kd.R_drew)); exact HO_4.out⟩, ⟨by (with_reducible repeat (first | refine yN ?_ _ | refine yD ?_ | refine yA ?_ _)); exact BK161.out⟩, ⟨by (with_reducible repeat (first | refine yN ?_ _ | refine yD ?_ | refine yA ?_ _)); exact BK162.out⟩, ⟨by repeat (first | (with_reducible first | exact HI0.out | apply wA | apply wN | apply wD | apply w_0 | apply w_1 | apply w_2 | apply w_3 | refine wR ?_ NB0_161.out _ | refine wR ?_ NB0_162.out _) | exact HI0.out)⟩, ⟨by repeat (first | (with_reducible first | exact HK.out | apply yK | apply zk | apply zl9 | apply zm | refine keep_far ?_ GW161.out _ | refine keep_far ?_ GW162.out _) | exact HK.out)⟩, ⟨by repeat (first | (with_reducible first | exact HB.out | apply zA | apply zN | apply zD | refine zq9 ?_ (wG HI0.out) | refine zq9 ?_ GE161.out | refine zq9 ?_ GE162.out) | exact HB.out)⟩⟩
     ·rw [if_neg c11] at H
      exact absurd H (by simp)
    ·rw [if_neg c10] at H
     have c10b0 : decide (x5_1 < (x1000_1.size : Int)) = false := decide_eq_false c10
     clear c10
     (first | rw [c10b0] | (simp only [i64_w, i32_w]; rw [c10b0]) | skip)
     have H' := yM H
     clear H
     obtain ⟨HGz14, hgz14⟩ := HI0.out
     have hcz14_0 := cellS79_0 HGz14
     have hcz14_1 := cellS79_1 HGz14
     have hcz14_2 := cellS79_2 HGz14
     have hcz14_3 := cellS79_3 HGz14
     have hfz14_0 := yF HGz14 0
     have hfz14_1 := yF HGz14 1
     have hfz14_2 := yF HGz14 2
     have hfz14_3 := yF HGz14 3
     clear HGz14 hgz14
     go_wp2
     go_meet
     case rel => exact ⟨_, (false), (by first | rfl | (simp; done) | (simp [*]; done)), H', ⟨by have := HK1.out; first | omega | exact Nat.le_refl _⟩, ⟨by (with_reducible repeat (first | apply Kd.R_alloc | apply Kd.R_drewN | apply Kd.R_drew)); exact HO_4.out⟩, ⟨by (with_reducible repeat (first | refine yN ?_ _ | refine yD ?_ | refine yA ?_ _)); exact BK161.out⟩, ⟨by (with_reducible repeat (first | refine yN ?_ _ | refine yD ?_ | refine yA ?_ _)); exact BK162.out⟩, ⟨by repeat (first | (with_reducible first | exact HI0.out | apply wA | apply wN | apply wD | apply w_0 | apply w_1 | apply w_2 | apply w_3 | refine wR ?_ NB0_161.out _ | refine wR ?_ NB0_162.out _) | exact HI0.out)⟩, ⟨by repeat (first | (with_reducible first | exact HK.out | apply yK | apply zk | apply zl9 | apply zm | refine keep_far ?_ GW161.out _ | refine keep_far ?_ GW162.out _) | exact HK.out)⟩, ⟨by repeat (first | (with_reducible first | exact HB.out | apply zA | apply zN | apply zD | refine zq9 ?_ (wG HI0.out) | refine zq9 ?_ GE161.out | refine zq9 ?_ GE162.out) | exact HB.out)⟩⟩
   case rest =>
    clear HC9
    try clear c1
    try clear p1
    try clear q1
    try clear hx1
    try clear p2
    try clear c4
    try clear c5
    try clear c6
    try clear p6
    try clear c10
    try clear c10b0
    try clear c11
    try clear c11b0
    try clear p12
    try clear q12
    try clear hx12
    try clear hcz13_0
    try clear hcz13_1
    try clear hcz13_2
    try clear hcz13_3
    try clear hcz14_0
    try clear hcz14_1
    try clear hcz14_2
    try clear hcz14_3
    try clear hcz3_0
    try clear hcz3_1
    try clear hcz3_2
    try clear hcz3_3
    try clear hcz7_0
    try clear hcz7_1
    try clear hcz7_2
    try clear hcz7_3
    try clear hcz7_4
    try clear hcz7_5
    try clear hcz8_0
    try clear hcz8_1
    try clear hcz8_2
    try clear hcz8_3
    try clear hfz13_0
    try clear hfz13_1
    try clear hfz13_2
    try clear hfz13_3
    try clear hfz14_0
    try clear hfz14_1
    try clear hfz14_2
    try clear hfz14_3
    try clear hfz3_0
    try clear hfz3_1
    try clear hfz3_2
    try clear hfz3_3
    try clear hfz7_0
    try clear hfz7_1
    try clear hfz7_2
    try clear hfz7_3
    try clear hfz7_4
    try clear hfz7_5
    try clear hfz8_0
    try clear hfz8_1
    try clear hfz8_2
    try clear hfz8_3
    try clear p12
    try clear p2
    try clear p6
    try clear q12
    obtain ⟨kq, x33_8, rfl, HA, HJ8, HO_4, BK161, BK162, HI0, HK, HB⟩ := hcut
    cases kq with
    | zero => exact absurd HA.out (by simp [T_text.j1])
    | succ kj8 =>
     have H := HA.out
     clear HA
     simp only [T_text.j1] at H
     by_cases c15 : x33_8 = true
     ·subst c15
      have H1 : (if 0 ≤ x5_1 then (if x5_1 < (x1000_1.size : Int) then (if (bt x1000_1 x5_1) < 32 then (if x5_1 ≥ (x1000_1.size : Int) then ((T_fail.f x1000_1 x1001_1 x1002_1 x1003_1 125 x1001_1).bind fun bt171 => (some (3, s0_1, 0, (⟨#[]⟩ : ByteArray), ([] : List (S67)), ([] : List (S67)), bt171.1, bt171.2.1, bt171.2.2.1, bt171.2.2.2))) else (if (bt x1000_1 x5_1) = 34 then (some (3, s0_1, wrap64 (x5_1 + 1), strOfNums x4_1, ([] : List (S67)), ([] : List (S67)), x1000_1, wrap64 (x5_1 + 1), x1002_1, x1003_1)) else ((T_fail.f x1000_1 x1001_1 x1002_1 x1003_1 125 x1001_1).bind fun bt175 => (some (3, s0_1, 0, (⟨#[]⟩ : ByteArray), ([] : List (S67)), ([] : List (S67)), bt175.1, bt175.2.1, bt175.2.2.1, bt175.2.2.2))))) else (if (bt x1000_1 x5_1) = 92 then ((T_escape.f kj8 x1000_1 x1001_1 x1002_1 x1003_1 x4_1 x5_1).bind fun bt179 => (if bt179.2.1 = 0 then (if x5_1 ≥ (bt179.2.2.1.size : Int) then ((T_fail.f bt179.2.2.1 bt179.2.2.2.1 bt179.2.2.2.2.1 bt179.2.2.2.2.2 125 bt179.2.2.2.1).bind fun bt187 => (some (3, s0_1, 0, (⟨#[]⟩ : ByteArray), ([] : List (S67)), ([] : List (S67)), bt187.1, bt187.2.1, bt187.2.2.1, bt187.2.2.2))) else (if x5_1 < (bt179.2.2.1.size : Int) then (if (bt bt179.2.2.1 x5_1) = 34 then (none) else ((T_fail.f bt179.2.2.1 bt179.2.2.2.1 bt179.2.2.2.2.1 bt179.2.2.2.2.2 125 bt179.2.2.2.1).bind fun bt191 => (some (3, s0_1, 0, (⟨#[]⟩ : ByteArray), ([] : List (S67)), ([] : List (S67)), bt191.1, bt191.2.1, bt191.2.2.1, bt191.2.2.2)))) else (none))) else (T_text.l0 kj8 bt179.1 bt179.2.1 bt179.2.2.1 bt179.2.2.2.1 bt179.2.2.2.2.1 bt179.2.2.2.2.2 3 s0_1 0 (⟨#[]⟩ : ByteArray)))) else (if x4_1.length < 140737488355328 then (T_text.l0 kj8 (x4_1 ++ [bt x1000_1 x5_1]) (wrap64 (x5_1 + 1)) x1000_1 x1001_1 x1002_1 x1003_1 3 s0_1 0 (⟨#[]⟩ : ByteArray)) else (none)))) else (none)) else (none)) = some (r1, r2, r3, r4, r5, r6, r7, r8, r9, r10) := by rw [if_pos rfl] at H; exact H
      clear H
      have H := H1
      clear H1
      by_cases c16 : 0 ≤ x5_1
      ·rw [if_pos c16] at H
       have c16b0 : decide (0 ≤ x5_1) = true := decide_eq_true c16
       clear c16
       by_cases c17 : x5_1 < (x1000_1.size : Int)
       ·rw [if_pos c17] at H
        have c17b0 : decide (x5_1 < (x1000_1.size : Int)) = true := decide_eq_true c17
        clear c17
        by_cases c19 : (bt x1000_1 x5_1) < 32
        ·rw [if_pos c19] at H
         have c19b0 : decide ((bt x1000_1 x5_1) < 32) = true := decide_eq_true c19
         clear c19
         by_cases c20 : x5_1 ≥ (x1000_1.size : Int)
         ·rw [if_pos c20] at H
          have c20b0 : decide ((x1000_1.size : Int) ≤ x5_1) = true := decide_eq_true c20
          clear c20
          replace H := yO H
          obtain ⟨⟨t171, t172, t173, t174⟩, A210, H⟩ := H
          replace H : (some (3, s0_1, 0, (⟨#[]⟩ : ByteArray), ([] : List (S67)), ([] : List (S67)), t171, t172, t173, t174)) = some (r1, r2, r3, r4, r5, r6, r7, r8, r9, r10) := H
          have A21 := yM A210
          clear A210
          simp only [Option.some.injEq, Prod.mk.injEq] at H
          obtain ⟨rfl, rfl, rfl, rfl, rfl, rfl, rfl, rfl, rfl, rfl⟩ := H
          obtain ⟨HGz22, hgz22⟩ := HI0.out
          have hcz22_0 := cellS79_0 HGz22
          have hcz22_1 := cellS79_1 HGz22
          have hcz22_2 := cellS79_2 HGz22
          have hcz22_3 := cellS79_3 HGz22
          have hfz22_0 := yF HGz22 0
          have hfz22_1 := yF HGz22 1
          have hfz22_2 := yF HGz22 2
          have hfz22_3 := yF HGz22 3
          clear HGz22 hgz22
          have p18 : 0 ≤ (x5_1 : Int) := yQ (by first | (with_reducible assumption) | assumption)
          have q18 : x5_1 < (x1000_1.size : Int) := yQ (by first | (with_reducible assumption) | assumption)
          have hx18 := bt_at x1000_1 x5_1
          replace p18 := eq_true p18
          replace q18 := eq_true q18
          go_wp2_with (first | ((with_reducible refine gate_callee (f := 34) rfl ?_); refine goesL_ (some 91) rfl rfl Tryd.func34 (by kernel_rfl) rfl #[.pointer (some ⟨g, 0, none⟩), .int .i64 125, .int .i64 x1001_1] rfl (by (try simp only [List.map_toArray, List.map_cons, List.map_nil]); first | done | rfl | (simp only [List.length_drop, List.length_take]; rfl)) ?_; (with_reducible refine (T_fail.calls g x1000_1 x1001_1 x1002_1 x1003_1 125 x1001_1 t171 t172 t173 t174 w0 _ ?side1 ?side2 A21.out).mono ?_); (case side1 => repeat (first | (with_reducible first | exact HI0.out | apply wA | apply wN | apply wD | apply w_0 | apply w_1 | apply w_2 | apply w_3 | refine wR ?_ NB0_161.out _ | refine wR ?_ NB0_162.out _) | exact HI0.out)); (case side2 => repeat (first | (with_reducible first | exact HB.out | apply zA | apply zN | apply zD | refine zq9 ?_ (wG HI0.out) | refine zq9 ?_ GE161.out | refine zq9 ?_ GE162.out) | exact HB.out)); rintro e w23 ⟨rfl, hi, hb, hk⟩; refine ⟨_, rfl, ?_⟩; have n0_ := yM (Kd.R_mono (Kd.R_keep (IsS79.apart (show IsS79 w0 _ g x1000_1 x1001_1 x1002_1 x1003_1 from by repeat (first | (with_reducible first | exact HI0.out | apply wA | apply wN | apply wD | apply w_0 | apply w_1 | apply w_2 | apply w_3 | refine wR ?_ NB0_161.out _ | refine wR ?_ NB0_162.out _) | exact HI0.out)) (by (with_reducible repeat (first | apply Kd.R_alloc | apply Kd.R_drewN | apply Kd.R_drew)); exact HO_4.out) (by decide)) hk (fun _ h => h.2)) (fun _ h => h.1)); have n1_ := yM (KeepBut.blk hk (g' := gb161) (o := .cells #[.int .i64 0, .int .i64 0, .int .i64 0, .string (⟨#[]⟩ : ByteArray), .slice none 0 0, .slice none 0 0] 67 (0, 0)) (by (with_reducible repeat (first | refine yN ?_ _ | refine yD ?_ | refine yA ?_ _)); exact BK161.out) NB161_0.out (by simp)); have n2_ := yM (KeepBut.blk hk (g' := gb162) (o := .cells #[.int .i64 3, .int .i64 s0_1, .int .i64 0, .string (⟨#[]⟩ : ByteArray), .slice none 0 0, .slice none 0 0] 67 (0, 0)) (by (with_reducible repeat (first | refine yN ?_ _ | refine yD ?_ | refine yA ?_ _)); exact BK162.out) NB162_0.out (by simp)); have n3_ := yM (KeepBut.trans (by repeat (first | (with_reducible first | exact HK.out | apply yK | apply zk | apply zl9 | apply zm | refine keep_far ?_ GW161.out _ | refine keep_far ?_ GW162.out _) | exact HK.out)) hk (.inl rfl)); have n4_ := yM (hb); have n5_ := yM (hi); clear HO_4; clear BK161; clear BK162; clear HK; clear HB; clear HI0; have HO_4 := n0_; have BK161 := n1_; have BK162 := n2_; have HK := n3_; have HB := n4_; have HI0 := n5_; clear n0_ n1_ n2_ n3_ n4_ n5_; (try clear hb); (try clear hb2); (try clear hk); (try clear hi); have hnb24 := NB162_161.out; have hnc24 := NB161_162.out; have hnb25 := NB162_0.out; have hnc25 := NB0_162.out; have hcz26_0 : w23.cell? ⟨gb162, 0, none⟩ = some (.int .i64 3) := (yC BK162.out 0).trans rfl; have hcz26_1 : w23.cell? ⟨gb162, 1, none⟩ = some (.int .i64 s0_1) := (yC BK162.out 1).trans rfl; have hcz26_2 : w23.cell? ⟨gb162, 2, none⟩ = some (.int .i64 0) := (yC BK162.out 2).trans rfl; have hcz26_3 : w23.cell? ⟨gb162, 3, none⟩ = some (.string (⟨#[]⟩ : ByteArray)) := (yC BK162.out 3).trans rfl; have hcz26_4 : w23.cell? ⟨gb162, 4, none⟩ = some (.slice none 0 0) := (yC BK162.out 4).trans rfl; have hcz26_5 : w23.cell? ⟨gb162, 5, none⟩ = some (.slice none 0 0) := (yC BK162.out 5).trans rfl; have hfz26_0 := yF BK162.out 0; have hfz26_1 := yF BK162.out 1; have hfz26_2 := yF BK162.out 2; have hfz26_3 := yF BK162.out 3; have hfz26_4 := yF BK162.out 4; have hfz26_5 := yF BK162.out 5; have hnb27 := NB161_0.out; have hnc27 := NB0_161.out; have hcz28_0 : w23.cell? ⟨gb161, 0, none⟩ = some (.int .i64 0) := (yC BK161.out 0).trans rfl; have hcz28_1 : w23.cell? ⟨gb161, 1, none⟩ = some (.int .i64 0) := (yC BK161.out 1).trans rfl; have hcz28_2 : w23.cell? ⟨gb161, 2, none⟩ = some (.int .i64 0) := (yC BK161.out 2).trans rfl; have hcz28_3 : w23.cell? ⟨gb161, 3, none⟩ = some (.string (⟨#[]⟩ : ByteArray)) := (yC BK161.out 3).trans rfl; have hcz28_4 : w23.cell? ⟨gb161, 4, none⟩ = some (.slice none 0 0) := (yC BK161.out 4).trans rfl; have hcz28_5 : w23.cell? ⟨gb161, 5, none⟩ = some (.slice none 0 0) := (yC BK161.out 5).trans rfl; have hfz28_0 := yF BK161.out 0; have hfz28_1 := yF BK161.out 1; have hfz28_2 := yF BK161.out 2; have hfz28_3 := yF BK161.out 3; have hfz28_4 := yF BK161.out 4; have hfz28_5 := yF BK161.out 5))
          refine bodyPost_ret (results_cell_row rfl _ _ gb161 67 #[.int .i64 3, .int .i64 s0_1, .int .i64 0, .string (⟨#[]⟩ : ByteArray), .slice none 0 0, .slice none 0 0] (0, 0) _ rfl (by (with_reducible repeat (first | refine yN ?_ _ | refine yD ?_ | refine yA ?_ _)); refine blk_put (cs := #[.int .i64 3, .int .i64 s0_1, .int .i64 0, .string (⟨#[]⟩ : ByteArray), .slice none 0 0, .slice none 0 0]) ?_ 5 _ rfl; (with_reducible repeat (first | refine yN ?_ _ | refine yD ?_ | refine yA ?_ _)); refine blk_put (cs := #[.int .i64 3, .int .i64 s0_1, .int .i64 0, .string (⟨#[]⟩ : ByteArray), .slice none 0 0, .slice none 0 0]) ?_ 4 _ rfl; (with_reducible repeat (first | refine yN ?_ _ | refine yD ?_ | refine yA ?_ _)); refine blk_put (cs := #[.int .i64 3, .int .i64 s0_1, .int .i64 0, .string (⟨#[]⟩ : ByteArray), .slice none 0 0, .slice none 0 0]) ?_ 3 _ rfl; (with_reducible repeat (first | refine yN ?_ _ | refine yD ?_ | refine yA ?_ _)); refine blk_put (cs := #[.int .i64 3, .int .i64 s0_1, .int .i64 0, .string (⟨#[]⟩ : ByteArray), .slice none 0 0, .slice none 0 0]) ?_ 2 _ rfl; (with_reducible repeat (first | refine yN ?_ _ | refine yD ?_ | refine yA ?_ _)); refine blk_put (cs := #[.int .i64 3, .int .i64 0, .int .i64 0, .string (⟨#[]⟩ : ByteArray), .slice none 0 0, .slice none 0 0]) ?_ 1 _ rfl; (with_reducible repeat (first | refine yN ?_ _ | refine yD ?_ | refine yA ?_ _)); refine blk_put (cs := #[.int .i64 0, .int .i64 0, .int .i64 0, .string (⟨#[]⟩ : ByteArray), .slice none 0 0, .slice none 0 0]) ?_ 0 _ rfl; (with_reducible repeat (first | refine yN ?_ _ | refine yD ?_ | refine yA ?_ _)); exact BK161.out) Tryd.underlying67 rfl (by kernel_rfl)) rfl ?_
          exact ⟨_, _, by first | rfl | (simp [errW_none, errW_some] <;> rfl) | (simp [*, errW_none, errW_some] <;> rfl), by first | exact Kd.R_nil _ _ _ _ _ | exact Kd.N_nil _ _ _ _ _ | exact Kd.V_nil _ _ _ _ _ | exact Kd.Q_nil _ _ _ _ _ | exact Kd.S_nil _ _ _ _ _, by first | exact Kd.R_nil _ _ _ _ _ | exact Kd.N_nil _ _ _ _ _ | exact Kd.V_nil _ _ _ _ _ | exact Kd.Q_nil _ _ _ _ _ | exact Kd.S_nil _ _ _ _ _, by repeat (first | (with_reducible first | exact HI0.out | apply wA | apply wN | apply wD | apply w_0 | apply w_1 | apply w_2 | apply w_3 | refine wR ?_ NB0_161.out _ | refine wR ?_ NB0_162.out _) | exact HI0.out), by repeat (first | (with_reducible first | exact HB.out | apply zA | apply zN | apply zD | refine zq9 ?_ (wG HI0.out) | refine zq9 ?_ GE161.out | refine zq9 ?_ GE162.out) | exact HB.out), by repeat (first | (with_reducible first | exact HK.out | apply yK | apply zk | apply zl9 | apply zm | refine keep_far ?_ GW161.out _ | refine keep_far ?_ GW162.out _) | exact HK.out)⟩
         ·rw [if_neg c20] at H
          have c20b0 : decide ((x1000_1.size : Int) ≤ x5_1) = false := decide_eq_false c20
          clear c20
          by_cases c30 : (bt x1000_1 x5_1) = 34
          ·rw [if_pos c30] at H
           have c30b0 : ((bt x1000_1 x5_1) == 34) = true := beq_iff_eq.mpr c30
           have c30b1 : ((bt x1000_1 x5_1) != 34) = false := bne_eq_false_iff_eq.mpr c30
           clear c30
           simp only [Option.some.injEq, Prod.mk.injEq] at H
           obtain ⟨rfl, rfl, rfl, rfl, rfl, rfl, rfl, rfl, rfl, rfl⟩ := H
           obtain ⟨HGz31, hgz31⟩ := HI0.out
           have hcz31_0 := cellS79_0 HGz31
           have hcz31_1 := cellS79_1 HGz31
           have hcz31_2 := cellS79_2 HGz31
           have hcz31_3 := cellS79_3 HGz31
           have hfz31_0 := yF HGz31 0
           have hfz31_1 := yF HGz31 1
           have hfz31_2 := yF HGz31 2
           have hfz31_3 := yF HGz31 3
           clear HGz31 hgz31
           have p18 : 0 ≤ (x5_1 : Int) := yQ (by first | (with_reducible assumption) | assumption)
           have q18 : x5_1 < (x1000_1.size : Int) := yQ (by first | (with_reducible assumption) | assumption)
           have hx18 := bt_at x1000_1 x5_1
           replace p18 := eq_true p18
           replace q18 := eq_true q18
           have p29 : 0 ≤ (x5_1 : Int) := yQ (by first | (with_reducible assumption) | assumption)
           have q29 : x5_1 < (x1000_1.size : Int) := yQ (by first | (with_reducible assumption) | assumption)
           have hx29 := bt_at x1000_1 x5_1
           replace p29 := eq_true p29
           replace q29 := eq_true q29
           have hnb32 := NB162_161.out
           have hnc32 := NB161_162.out
           have hnb33 := NB162_0.out
           have hnc33 := NB0_162.out
           have hcz34_0 : wc.cell? ⟨gb162, 0, none⟩ = some (.int .i64 3) := (yC BK162.out 0).trans rfl
           have hcz34_1 : wc.cell? ⟨gb162, 1, none⟩ = some (.int .i64 s0_1) := (yC BK162.out 1).trans rfl
           have hcz34_2 : wc.cell? ⟨gb162, 2, none⟩ = some (.int .i64 0) := (yC BK162.out 2).trans rfl
           have hcz34_3 : wc.cell? ⟨gb162, 3, none⟩ = some (.string (⟨#[]⟩ : ByteArray)) := (yC BK162.out 3).trans rfl
           have hcz34_4 : wc.cell? ⟨gb162, 4, none⟩ = some (.slice none 0 0) := (yC BK162.out 4).trans rfl
           have hcz34_5 : wc.cell? ⟨gb162, 5, none⟩ = some (.slice none 0 0) := (yC BK162.out 5).trans rfl
           have hfz34_0 := yF BK162.out 0
           have hfz34_1 := yF BK162.out 1
           have hfz34_2 := yF BK162.out 2
           have hfz34_3 := yF BK162.out 3
           have hfz34_4 := yF BK162.out 4
           have hfz34_5 := yF BK162.out 5
           have hcv35 : (convert 49 9 u4).run Tryd.prog ((wc.setCell ⟨g, 1, none⟩ (.int .i64 (wrap64 (x5_1 + 1)))).setCell ⟨gb162, 2, none⟩ (.int .i64 (wrap64 (x5_1 + 1)))) = .ok (.string (strOfNums x4_1)) _ := own_string (P := Tryd.prog) Tryd.underlying49 Tryd.underlying5 Tryd.underlying9 (own_two_ (Kd.own_of_R HO_4.out) HI0.out.1 BK162.out 1 2 _ _)
           have hnb36 := NB161_0.out
           have hnc36 := NB0_161.out
           have hcz37_0 : wc.cell? ⟨gb161, 0, none⟩ = some (.int .i64 0) := (yC BK161.out 0).trans rfl
           have hcz37_1 : wc.cell? ⟨gb161, 1, none⟩ = some (.int .i64 0) := (yC BK161.out 1).trans rfl
           have hcz37_2 : wc.cell? ⟨gb161, 2, none⟩ = some (.int .i64 0) := (yC BK161.out 2).trans rfl
           have hcz37_3 : wc.cell? ⟨gb161, 3, none⟩ = some (.string (⟨#[]⟩ : ByteArray)) := (yC BK161.out 3).trans rfl
           have hcz37_4 : wc.cell? ⟨gb161, 4, none⟩ = some (.slice none 0 0) := (yC BK161.out 4).trans rfl
           have hcz37_5 : wc.cell? ⟨gb161, 5, none⟩ = some (.slice none 0 0) := (yC BK161.out 5).trans rfl
           have hfz37_0 := yF BK161.out 0
           have hfz37_1 := yF BK161.out 1
           have hfz37_2 := yF BK161.out 2
           have hfz37_3 := yF BK161.out 3
           have hfz37_4 := yF BK161.out 4
           have hfz37_5 := yF BK161.out 5
           go_wp2
           refine bodyPost_ret (results_cell_row rfl _ _ gb161 67 #[.int .i64 3, .int .i64 s0_1, .int .i64 (wrap64 (x5_1 + 1)), .string (strOfNums x4_1), .slice none 0 0, .slice none 0 0] (0, 0) _ rfl (by (with_reducible repeat (first | refine yN ?_ _ | refine yD ?_ | refine yA ?_ _)); refine blk_put (cs := #[.int .i64 3, .int .i64 s0_1, .int .i64 (wrap64 (x5_1 + 1)), .string (strOfNums x4_1), .slice none 0 0, .slice none 0 0]) ?_ 5 _ rfl; (with_reducible repeat (first | refine yN ?_ _ | refine yD ?_ | refine yA ?_ _)); refine blk_put (cs := #[.int .i64 3, .int .i64 s0_1, .int .i64 (wrap64 (x5_1 + 1)), .string (strOfNums x4_1), .slice none 0 0, .slice none 0 0]) ?_ 4 _ rfl; (with_reducible repeat (first | refine yN ?_ _ | refine yD ?_ | refine yA ?_ _)); refine blk_put (cs := #[.int .i64 3, .int .i64 s0_1, .int .i64 (wrap64 (x5_1 + 1)), .string (⟨#[]⟩ : ByteArray), .slice none 0 0, .slice none 0 0]) ?_ 3 _ rfl; (with_reducible repeat (first | refine yN ?_ _ | refine yD ?_ | refine yA ?_ _)); refine blk_put (cs := #[.int .i64 3, .int .i64 s0_1, .int .i64 0, .string (⟨#[]⟩ : ByteArray), .slice none 0 0, .slice none 0 0]) ?_ 2 _ rfl; (with_reducible repeat (first | refine yN ?_ _ | refine yD ?_ | refine yA ?_ _)); refine blk_put (cs := #[.int .i64 3, .int .i64 0, .int .i64 0, .string (⟨#[]⟩ : ByteArray), .slice none 0 0, .slice none 0 0]) ?_ 1 _ rfl; (with_reducible repeat (first | refine yN ?_ _ | refine yD ?_ | refine yA ?_ _)); refine blk_put (cs := #[.int .i64 0, .int .i64 0, .int .i64 0, .string (⟨#[]⟩ : ByteArray), .slice none 0 0, .slice none 0 0]) ?_ 0 _ rfl; (with_reducible repeat (first | refine yN ?_ _ | refine yD ?_ | refine yA ?_ _)); refine yR ?_ NB161_162.out _; (with_reducible repeat (first | refine yN ?_ _ | refine yD ?_ | refine yA ?_ _)); refine yR ?_ NB161_162.out _; (with_reducible repeat (first | refine yN ?_ _ | refine yD ?_ | refine yA ?_ _)); refine yR ?_ NB161_0.out _; (with_reducible repeat (first | refine yN ?_ _ | refine yD ?_ | refine yA ?_ _)); exact BK161.out) Tryd.underlying67 rfl (by kernel_rfl)) rfl ?_
           exact ⟨_, _, by first | rfl | (simp [errW_none, errW_some] <;> rfl) | (simp [*, errW_none, errW_some] <;> rfl), by first | exact Kd.R_nil _ _ _ _ _ | exact Kd.N_nil _ _ _ _ _ | exact Kd.V_nil _ _ _ _ _ | exact Kd.Q_nil _ _ _ _ _ | exact Kd.S_nil _ _ _ _ _, by first | exact Kd.R_nil _ _ _ _ _ | exact Kd.N_nil _ _ _ _ _ | exact Kd.V_nil _ _ _ _ _ | exact Kd.Q_nil _ _ _ _ _ | exact Kd.S_nil _ _ _ _ _, by repeat (first | (with_reducible first | exact HI0.out | apply wA | apply wN | apply wD | apply w_0 | apply w_1 | apply w_2 | apply w_3 | refine wR ?_ NB0_161.out _ | refine wR ?_ NB0_162.out _) | exact HI0.out), by repeat (first | (with_reducible first | exact HB.out | apply zA | apply zN | apply zD | refine zq9 ?_ (wG HI0.out) | refine zq9 ?_ GE161.out | refine zq9 ?_ GE162.out) | exact HB.out), by repeat (first | (with_reducible first | exact HK.out | apply yK | apply zk | apply zl9 | apply zm | refine keep_far ?_ GW161.out _ | refine keep_far ?_ GW162.out _) | exact HK.out)⟩
          ·rw [if_neg c30] at H
           have c30b0 : ((bt x1000_1 x5_1) == 34) = false := yB c30
           have c30b1 : ((bt x1000_1 x5_1) != 34) = true := bne_iff_ne.mpr c30
           replace H := yO H
           obtain ⟨⟨t175, t176, t177, t178⟩, A380, H⟩ := H
           replace H : (some (3, s0_1, 0, (⟨#[]⟩ : ByteArray), ([] : List (S67)), ([] : List (S67)), t175, t176, t177, t178)) = some (r1, r2, r3, r4, r5, r6, r7, r8, r9, r10) := H
           have A38 := yM A380
           clear A380
           simp only [Option.some.injEq, Prod.mk.injEq] at H
           obtain ⟨rfl, rfl, rfl, rfl, rfl, rfl, rfl, rfl, rfl, rfl⟩ := H
           obtain ⟨HGz39, hgz39⟩ := HI0.out
           have hcz39_0 := cellS79_0 HGz39
           have hcz39_1 := cellS79_1 HGz39
           have hcz39_2 := cellS79_2 HGz39
           have hcz39_3 := cellS79_3 HGz39
           have hfz39_0 := yF HGz39 0
           have hfz39_1 := yF HGz39 1
           have hfz39_2 := yF HGz39 2
           have hfz39_3 := yF HGz39 3
           clear HGz39 hgz39
           have p18 : 0 ≤ (x5_1 : Int) := yQ (by first | (with_reducible assumption) | assumption)
           have q18 : x5_1 < (x1000_1.size : Int) := yQ (by first | (with_reducible assumption) | assumption)
           have hx18 := bt_at x1000_1 x5_1
           replace p18 := eq_true p18
           replace q18 := eq_true q18
           have p29 : 0 ≤ (x5_1 : Int) := yQ (by first | (with_reducible assumption) | assumption)
           have q29 : x5_1 < (x1000_1.size : Int) := yQ (by first | (with_reducible assumption) | assumption)
           have hx29 := bt_at x1000_1 x5_1
           replace p29 := eq_true p29
           replace q29 := eq_true q29
           go_wp2_with (first | ((with_reducible refine gate_callee (f := 34) rfl ?_); refine goesL_ (some 91) rfl rfl Tryd.func34 (by kernel_rfl) rfl #[.pointer (some ⟨g, 0, none⟩), .int .i64 125, .int .i64 x1001_1] rfl (by (try simp only [List.map_toArray, List.map_cons, List.map_nil]); first | done | rfl | (simp only [List.length_drop, List.length_take]; rfl)) ?_; (with_reducible refine (T_fail.calls g x1000_1 x1001_1 x1002_1 x1003_1 125 x1001_1 t175 t176 t177 t178 w0 _ ?side1 ?side2 A38.out).mono ?_); (case side1 => repeat (first | (with_reducible first | exact HI0.out | apply wA | apply wN | apply wD | apply w_0 | apply w_1 | apply w_2 | apply w_3 | refine wR ?_ NB0_161.out _ | refine wR ?_ NB0_162.out _) | exact HI0.out)); (case side2 => repeat (first | (with_reducible first | exact HB.out | apply zA | apply zN | apply zD | refine zq9 ?_ (wG HI0.out) | refine zq9 ?_ GE161.out | refine zq9 ?_ GE162.out) | exact HB.out)); rintro e w40 ⟨rfl, hi, hb, hk⟩; refine ⟨_, rfl, ?_⟩; have n0_ := yM (Kd.R_mono (Kd.R_keep (IsS79.apart (show IsS79 w0 _ g x1000_1 x1001_1 x1002_1 x1003_1 from by repeat (first | (with_reducible first | exact HI0.out | apply wA | apply wN | apply wD | apply w_0 | apply w_1 | apply w_2 | apply w_3 | refine wR ?_ NB0_161.out _ | refine wR ?_ NB0_162.out _) | exact HI0.out)) (by (with_reducible repeat (first | apply Kd.R_alloc | apply Kd.R_drewN | apply Kd.R_drew)); exact HO_4.out) (by decide)) hk (fun _ h => h.2)) (fun _ h => h.1)); have n1_ := yM (KeepBut.blk hk (g' := gb161) (o := .cells #[.int .i64 0, .int .i64 0, .int .i64 0, .string (⟨#[]⟩ : ByteArray), .slice none 0 0, .slice none 0 0] 67 (0, 0)) (by (with_reducible repeat (first | refine yN ?_ _ | refine yD ?_ | refine yA ?_ _)); exact BK161.out) NB161_0.out (by simp)); have n2_ := yM (KeepBut.blk hk (g' := gb162) (o := .cells #[.int .i64 3, .int .i64 s0_1, .int .i64 0, .string (⟨#[]⟩ : ByteArray), .slice none 0 0, .slice none 0 0] 67 (0, 0)) (by (with_reducible repeat (first | refine yN ?_ _ | refine yD ?_ | refine yA ?_ _)); exact BK162.out) NB162_0.out (by simp)); have n3_ := yM (KeepBut.trans (by repeat (first | (with_reducible first | exact HK.out | apply yK | apply zk | apply zl9 | apply zm | refine keep_far ?_ GW161.out _ | refine keep_far ?_ GW162.out _) | exact HK.out)) hk (.inl rfl)); have n4_ := yM (hb); have n5_ := yM (hi); clear HO_4; clear BK161; clear BK162; clear HK; clear HB; clear HI0; have HO_4 := n0_; have BK161 := n1_; have BK162 := n2_; have HK := n3_; have HB := n4_; have HI0 := n5_; clear n0_ n1_ n2_ n3_ n4_ n5_; (try clear hb); (try clear hb2); (try clear hk); (try clear hi); have hnb41 := NB162_161.out; have hnc41 := NB161_162.out; have hnb42 := NB162_0.out; have hnc42 := NB0_162.out; have hcz43_0 : w40.cell? ⟨gb162, 0, none⟩ = some (.int .i64 3) := (yC BK162.out 0).trans rfl; have hcz43_1 : w40.cell? ⟨gb162, 1, none⟩ = some (.int .i64 s0_1) := (yC BK162.out 1).trans rfl; have hcz43_2 : w40.cell? ⟨gb162, 2, none⟩ = some (.int .i64 0) := (yC BK162.out 2).trans rfl; have hcz43_3 : w40.cell? ⟨gb162, 3, none⟩ = some (.string (⟨#[]⟩ : ByteArray)) := (yC BK162.out 3).trans rfl; have hcz43_4 : w40.cell? ⟨gb162, 4, none⟩ = some (.slice none 0 0) := (yC BK162.out 4).trans rfl; have hcz43_5 : w40.cell? ⟨gb162, 5, none⟩ = some (.slice none 0 0) := (yC BK162.out 5).trans rfl; have hfz43_0 := yF BK162.out 0; have hfz43_1 := yF BK162.out 1; have hfz43_2 := yF BK162.out 2; have hfz43_3 := yF BK162.out 3; have hfz43_4 := yF BK162.out 4; have hfz43_5 := yF BK162.out 5; have hnb44 := NB161_0.out; have hnc44 := NB0_161.out; have hcz45_0 : w40.cell? ⟨gb161, 0, none⟩ = some (.int .i64 0) := (yC BK161.out 0).trans rfl; have hcz45_1 : w40.cell? ⟨gb161, 1, none⟩ = some (.int .i64 0) := (yC BK161.out 1).trans rfl; have hcz45_2 : w40.cell? ⟨gb161, 2, none⟩ = some (.int .i64 0) := (yC BK161.out 2).trans rfl; have hcz45_3 : w40.cell? ⟨gb161, 3, none⟩ = some (.string (⟨#[]⟩ : ByteArray)) := (yC BK161.out 3).trans rfl; have hcz45_4 : w40.cell? ⟨gb161, 4, none⟩ = some (.slice none 0 0) := (yC BK161.out 4).trans rfl; have hcz45_5 : w40.cell? ⟨gb161, 5, none⟩ = some (.slice none 0 0) := (yC BK161.out 5).trans rfl; have hfz45_0 := yF BK161.out 0; have hfz45_1 := yF BK161.out 1; have hfz45_2 := yF BK161.out 2; have hfz45_3 := yF BK161.out 3; have hfz45_4 := yF BK161.out 4; have hfz45_5 := yF BK161.out 5))
           refine bodyPost_ret (results_cell_row rfl _ _ gb161 67 #[.int .i64 3, .int .i64 s0_1, .int .i64 0, .string (⟨#[]⟩ : ByteArray), .slice none 0 0, .slice none 0 0] (0, 0) _ rfl (by (with_reducible repeat (first | refine yN ?_ _ | refine yD ?_ | refine yA ?_ _)); refine blk_put (cs := #[.int .i64 3, .int .i64 s0_1, .int .i64 0, .string (⟨#[]⟩ : ByteArray), .slice none 0 0, .slice none 0 0]) ?_ 5 _ rfl; (with_reducible repeat (first | refine yN ?_ _ | refine yD ?_ | refine yA ?_ _)); refine blk_put (cs := #[.int .i64 3, .int .i64 s0_1, .int .i64 0, .string (⟨#[]⟩ : ByteArray), .slice none 0 0, .slice none 0 0]) ?_ 4 _ rfl; (with_reducible repeat (first | refine yN ?_ _ | refine yD ?_ | refine yA ?_ _)); refine blk_put (cs := #[.int .i64 3, .int .i64 s0_1, .int .i64 0, .string (⟨#[]⟩ : ByteArray), .slice none 0 0, .slice none 0 0]) ?_ 3 _ rfl; (with_reducible repeat (first | refine yN ?_ _ | refine yD ?_ | refine yA ?_ _)); refine blk_put (cs := #[.int .i64 3, .int .i64 s0_1, .int .i64 0, .string (⟨#[]⟩ : ByteArray), .slice none 0 0, .slice none 0 0]) ?_ 2 _ rfl; (with_reducible repeat (first | refine yN ?_ _ | refine yD ?_ | refine yA ?_ _)); refine blk_put (cs := #[.int .i64 3, .int .i64 0, .int .i64 0, .string (⟨#[]⟩ : ByteArray), .slice none 0 0, .slice none 0 0]) ?_ 1 _ rfl; (with_reducible repeat (first | refine yN ?_ _ | refine yD ?_ | refine yA ?_ _)); refine blk_put (cs := #[.int .i64 0, .int .i64 0, .int .i64 0, .string (⟨#[]⟩ : ByteArray), .slice none 0 0, .slice none 0 0]) ?_ 0 _ rfl; (with_reducible repeat (first | refine yN ?_ _ | refine yD ?_ | refine yA ?_ _)); exact BK161.out) Tryd.underlying67 rfl (by kernel_rfl)) rfl ?_
           exact ⟨_, _, by first | rfl | (simp [errW_none, errW_some] <;> rfl) | (simp [*, errW_none, errW_some] <;> rfl), by first | exact Kd.R_nil _ _ _ _ _ | exact Kd.N_nil _ _ _ _ _ | exact Kd.V_nil _ _ _ _ _ | exact Kd.Q_nil _ _ _ _ _ | exact Kd.S_nil _ _ _ _ _, by first | exact Kd.R_nil _ _ _ _ _ | exact Kd.N_nil _ _ _ _ _ | exact Kd.V_nil _ _ _ _ _ | exact Kd.Q_nil _ _ _ _ _ | exact Kd.S_nil _ _ _ _ _, by repeat (first | (with_reducible first | exact HI0.out | apply wA | apply wN | apply wD | apply w_0 | apply w_1 | apply w_2 | apply w_3 | refine wR ?_ NB0_161.out _ | refine wR ?_ NB0_162.out _) | exact HI0.out), by repeat (first | (with_reducible first | exact HB.out | apply zA | apply zN | apply zD | refine zq9 ?_ (wG HI0.out) | refine zq9 ?_ GE161.out | refine zq9 ?_ GE162.out) | exact HB.out), by repeat (first | (with_reducible first | exact HK.out | apply yK | apply zk | apply zl9 | apply zm | refine keep_far ?_ GW161.out _ | refine keep_far ?_ GW162.out _) | exact HK.out)⟩
        ·rw [if_neg c19] at H
         have c19b0 : decide ((bt x1000_1 x5_1) < 32) = false := decide_eq_false c19
         clear c19
         by_cases c47 : (bt x1000_1 x5_1) = 92
         ·rw [if_pos c47] at H
          have c47b0 : ((bt x1000_1 x5_1) == 92) = true := beq_iff_eq.mpr c47
          have c47b1 : ((bt x1000_1 x5_1) != 92) = false := bne_eq_false_iff_eq.mpr c47
          clear c47
          replace H := yO H
          obtain ⟨⟨t179, t182, t183, t184, t185, t186⟩, A480, H⟩ := H
          replace H : (if t182 = 0 then (if x5_1 ≥ (t183.size : Int) then ((T_fail.f t183 t184 t185 t186 125 t184).bind fun bt187 => (some (3, s0_1, 0, (⟨#[]⟩ : ByteArray), ([] : List (S67)), ([] : List (S67)), bt187.1, bt187.2.1, bt187.2.2.1, bt187.2.2.2))) else (if x5_1 < (t183.size : Int) then (if (bt t183 x5_1) = 34 then (none) else ((T_fail.f t183 t184 t185 t186 125 t184).bind fun bt191 => (some (3, s0_1, 0, (⟨#[]⟩ : ByteArray), ([] : List (S67)), ([] : List (S67)), bt191.1, bt191.2.1, bt191.2.2.1, bt191.2.2.2)))) else (none))) else (T_text.l0 kj8 t179 t182 t183 t184 t185 t186 3 s0_1 0 (⟨#[]⟩ : ByteArray))) = some (r1, r2, r3, r4, r5, r6, r7, r8, r9, r10) := H
          have A48 := yM A480
          clear A480
          by_cases c49 : t182 = 0
          ·rw [if_pos c49] at H
           have c49b0 : (t182 == 0) = true := beq_iff_eq.mpr c49
           have c49b1 : (t182 != 0) = false := bne_eq_false_iff_eq.mpr c49
           clear c49
           by_cases c50 : x5_1 ≥ (t183.size : Int)
           ·rw [if_pos c50] at H
            have c50b0 : decide ((t183.size : Int) ≤ x5_1) = true := decide_eq_true c50
            clear c50
            replace H := yO H
            obtain ⟨⟨t187, t188, t189, t190⟩, A510, H⟩ := H
            replace H : (some (3, s0_1, 0, (⟨#[]⟩ : ByteArray), ([] : List (S67)), ([] : List (S67)), t187, t188, t189, t190)) = some (r1, r2, r3, r4, r5, r6, r7, r8, r9, r10) := H
            have A51 := yM A510
            clear A510
            simp only [Option.some.injEq, Prod.mk.injEq] at H
            obtain ⟨rfl, rfl, rfl, rfl, rfl, rfl, rfl, rfl, rfl, rfl⟩ := H
            obtain ⟨HGz52, hgz52⟩ := HI0.out
            have hcz52_0 := cellS79_0 HGz52
            have hcz52_1 := cellS79_1 HGz52
            have hcz52_2 := cellS79_2 HGz52
            have hcz52_3 := cellS79_3 HGz52
            have hfz52_0 := yF HGz52 0
            have hfz52_1 := yF HGz52 1
            have hfz52_2 := yF HGz52 2
            have hfz52_3 := yF HGz52 3
            clear HGz52 hgz52
            have p18 : 0 ≤ (x5_1 : Int) := yQ (by first | (with_reducible assumption) | assumption)
            have q18 : x5_1 < (x1000_1.size : Int) := yQ (by first | (with_reducible assumption) | assumption)
            have hx18 := bt_at x1000_1 x5_1
            replace p18 := eq_true p18
            replace q18 := eq_true q18
            have p46 : 0 ≤ (x5_1 : Int) := yQ (by first | (with_reducible assumption) | assumption)
            have q46 : x5_1 < (x1000_1.size : Int) := yQ (by first | (with_reducible assumption) | assumption)
            have hx46 := bt_at x1000_1 x5_1
            replace p46 := eq_true p46
            replace q46 := eq_true q46
            obtain ⟨Ao53, co53, eo53⟩ := Kd.R_slice HO_4.out
            subst eo53
            go_wp2_with (first | ((with_reducible refine gate_callee (f := 64) rfl ?_); refine goesL_ (some 63) rfl rfl Tryd.func64 (by kernel_rfl) rfl #[.pointer (some ⟨g, 0, none⟩), .slice Ao53 x4_1.length co53, .int .i64 x5_1] rfl (by (try simp only [List.map_toArray, List.map_cons, List.map_nil]); first | done | rfl | (simp only [List.length_drop, List.length_take]; rfl)) ?_; (with_reducible refine (T_escape.calls kj8 g x1000_1 x1001_1 x1002_1 x1003_1 (fun k_ => some k_ = (.slice Ao53 x4_1.length co53 : Value).ownBlock) (.slice Ao53 x4_1.length co53) x4_1 x5_1 t179 t182 t183 t184 t185 t186 w0 _ ?side1 ?side2 ?side3 A48.out).mono ?_); (case side1 => repeat (first | (with_reducible first | exact HI0.out | apply wA | apply wN | apply wD | apply w_0 | apply w_1 | apply w_2 | apply w_3 | refine wR ?_ NB0_161.out _ | refine wR ?_ NB0_162.out _) | exact HI0.out)); (case side2 => repeat (first | (with_reducible first | exact HB.out | apply zA | apply zN | apply zD | refine zq9 ?_ (wG HI0.out) | refine zq9 ?_ GE161.out | refine zq9 ?_ GE162.out) | exact HB.out)); (case side3 => exact Kd.R_lower (Kd.R_tight rfl HO_4.out) HL.out); rintro e w54 ⟨v180, rfl, ho0, hi, hb, hkp⟩; refine ⟨_, rfl, ?_⟩; have n0_ := yM (blk_kept (by (with_reducible repeat (first | refine yN ?_ _ | refine yD ?_ | refine yA ?_ _)); exact BK161.out) hkp (fun hs_ => Or.elim hs_ (fun hs_ => (fun e_ => (Kd.R_ne HO_4.out BK161.out (by decide)) e_) hs_) (fun e_ => NB161_0.out e_))); have n1_ := yM (blk_kept (by (with_reducible repeat (first | refine yN ?_ _ | refine yD ?_ | refine yA ?_ _)); exact BK162.out) hkp (fun hs_ => Or.elim hs_ (fun hs_ => (fun e_ => (Kd.R_ne HO_4.out BK162.out (by decide)) e_) hs_) (fun e_ => NB162_0.out e_))); have n2_ := yM (hi); have n3_ := yM (Kd.R_mono (ok' := fun k_ => True) (Kd.R_raise (d := (Kd.int .u8)) (b := w0.heap.size) (b' := w.heap.size) (fun _ _ _ _ h_ => h_) ho0 (fun k_ e_ => Or.elim (ho0.1 k_ e_) (fun hs_ => (fun e_ => Kd.R_base HO_4.out k_ e_.symm) hs_) (fun hn_ => Nat.le_trans (keep_size (w := w) (g := g) (row := none) (by repeat (first | (with_reducible first | exact HK.out | apply yK | apply zk | apply zl9 | apply zm | refine keep_far ?_ GW161.out _ | refine keep_far ?_ GW162.out _) | exact HK.out))) hn_))) (fun k_ hk_ => trivial)); have n4_ := yM (Kept.keepG (by repeat (first | (with_reducible first | exact HK.out | apply yK | apply zk | apply zl9 | apply zm | refine keep_far ?_ GW161.out _ | refine keep_far ?_ GW162.out _) | exact HK.out)) hkp (fun k_ hs_ => Or.elim hs_ (fun hs_ => (fun e_ => .inr (Kd.R_base HO_4.out k_ e_.symm)) hs_) (fun e_ => .inl e_))); have n5_ := yM (hb); clear BK161; clear BK162; clear HI0; clear HK; clear HB; clear HO_4; have BK161 := n0_; have BK162 := n1_; have HI0 := n2_; have HO181 := n3_; have HK := n4_; have HB := n5_; clear n0_ n1_ n2_ n3_ n4_ n5_; (try clear hb); (try clear hkp); (try clear ho0); obtain ⟨HGz55, hgz55⟩ := HI0.out; have hcz55_0 := cellS79_0 HGz55; have hcz55_1 := cellS79_1 HGz55; have hcz55_2 := cellS79_2 HGz55; have hcz55_3 := cellS79_3 HGz55; have hfz55_0 := yF HGz55 0; have hfz55_1 := yF HGz55 1; have hfz55_2 := yF HGz55 2; have hfz55_3 := yF HGz55 3; clear HGz55 hgz55) | ((with_reducible refine gate_callee (f := 34) rfl ?_); refine goesL_ (some 91) rfl rfl Tryd.func34 (by kernel_rfl) rfl #[.pointer (some ⟨g, 0, none⟩), .int .i64 125, .int .i64 t184] rfl (by (try simp only [List.map_toArray, List.map_cons, List.map_nil]); first | done | rfl | (simp only [List.length_drop, List.length_take]; rfl)) ?_; (with_reducible refine (T_fail.calls g t183 t184 t185 t186 125 t184 t187 t188 t189 t190 w0 _ ?side1 ?side2 A51.out).mono ?_); (case side1 => repeat (first | (with_reducible first | exact HI0.out | apply wA | apply wN | apply wD | apply w_0 | apply w_1 | apply w_2 | apply w_3 | refine wR ?_ NB0_161.out _ | refine wR ?_ NB0_162.out _) | exact HI0.out)); (case side2 => repeat (first | (with_reducible first | exact HB.out | apply zA | apply zN | apply zD | refine zq9 ?_ (wG HI0.out) | refine zq9 ?_ GE161.out | refine zq9 ?_ GE162.out) | exact HB.out)); rintro e w56 ⟨rfl, hi, hb, hk⟩; refine ⟨_, rfl, ?_⟩; have n0_ := yM (KeepBut.blk hk (g' := gb161) (o := .cells #[.int .i64 0, .int .i64 0, .int .i64 0, .string (⟨#[]⟩ : ByteArray), .slice none 0 0, .slice none 0 0] 67 (0, 0)) (by (with_reducible repeat (first | refine yN ?_ _ | refine yD ?_ | refine yA ?_ _)); exact BK161.out) NB161_0.out (by simp)); have n1_ := yM (KeepBut.blk hk (g' := gb162) (o := .cells #[.int .i64 3, .int .i64 s0_1, .int .i64 0, .string (⟨#[]⟩ : ByteArray), .slice none 0 0, .slice none 0 0] 67 (0, 0)) (by (with_reducible repeat (first | refine yN ?_ _ | refine yD ?_ | refine yA ?_ _)); exact BK162.out) NB162_0.out (by simp)); have n2_ := yM (Kd.R_mono (Kd.R_keep (IsS79.apart (show IsS79 w0 _ g t183 t184 t185 t186 from by repeat (first | (with_reducible first | exact HI0.out | apply wA | apply wN | apply wD | apply w_0 | apply w_1 | apply w_2 | apply w_3 | refine wR ?_ NB0_161.out _ | refine wR ?_ NB0_162.out _) | exact HI0.out)) (by (with_reducible repeat (first | apply Kd.R_alloc | apply Kd.R_drewN | apply Kd.R_drew)); exact HO181.out) (by decide)) hk (fun _ h => h.2)) (fun _ h => h.1)); have n3_ := yM (KeepBut.trans (by repeat (first | (with_reducible first | exact HK.out | apply yK | apply zk | apply zl9 | apply zm | refine keep_far ?_ GW161.out _ | refine keep_far ?_ GW162.out _) | exact HK.out)) hk (.inl rfl)); have n4_ := yM (hb); have n5_ := yM (hi); clear BK161; clear BK162; clear HO181; clear HK; clear HB; clear HI0; have BK161 := n0_; have BK162 := n1_; have HO181 := n2_; have HK := n3_; have HB := n4_; have HI0 := n5_; clear n0_ n1_ n2_ n3_ n4_ n5_; (try clear hb); (try clear hb2); (try clear hk); (try clear hi); have hnb57 := NB162_161.out; have hnc57 := NB161_162.out; have hnb58 := NB162_0.out; have hnc58 := NB0_162.out; have hcz59_0 : w56.cell? ⟨gb162, 0, none⟩ = some (.int .i64 3) := (yC BK162.out 0).trans rfl; have hcz59_1 : w56.cell? ⟨gb162, 1, none⟩ = some (.int .i64 s0_1) := (yC BK162.out 1).trans rfl; have hcz59_2 : w56.cell? ⟨gb162, 2, none⟩ = some (.int .i64 0) := (yC BK162.out 2).trans rfl; have hcz59_3 : w56.cell? ⟨gb162, 3, none⟩ = some (.string (⟨#[]⟩ : ByteArray)) := (yC BK162.out 3).trans rfl; have hcz59_4 : w56.cell? ⟨gb162, 4, none⟩ = some (.slice none 0 0) := (yC BK162.out 4).trans rfl; have hcz59_5 : w56.cell? ⟨gb162, 5, none⟩ = some (.slice none 0 0) := (yC BK162.out 5).trans rfl; have hfz59_0 := yF BK162.out 0; have hfz59_1 := yF BK162.out 1; have hfz59_2 := yF BK162.out 2; have hfz59_3 := yF BK162.out 3; have hfz59_4 := yF BK162.out 4; have hfz59_5 := yF BK162.out 5; have hnb60 := NB161_0.out; have hnc60 := NB0_161.out; have hcz61_0 : w56.cell? ⟨gb161, 0, none⟩ = some (.int .i64 0) := (yC BK161.out 0).trans rfl; have hcz61_1 : w56.cell? ⟨gb161, 1, none⟩ = some (.int .i64 0) := (yC BK161.out 1).trans rfl; have hcz61_2 : w56.cell? ⟨gb161, 2, none⟩ = some (.int .i64 0) := (yC BK161.out 2).trans rfl; have hcz61_3 : w56.cell? ⟨gb161, 3, none⟩ = some (.string (⟨#[]⟩ : ByteArray)) := (yC BK161.out 3).trans rfl; have hcz61_4 : w56.cell? ⟨gb161, 4, none⟩ = some (.slice none 0 0) := (yC BK161.out 4).trans rfl; have hcz61_5 : w56.cell? ⟨gb161, 5, none⟩ = some (.slice none 0 0) := (yC BK161.out 5).trans rfl; have hfz61_0 := yF BK161.out 0; have hfz61_1 := yF BK161.out 1; have hfz61_2 := yF BK161.out 2; have hfz61_3 := yF BK161.out 3; have hfz61_4 := yF BK161.out 4; have hfz61_5 := yF BK161.out 5))
            refine bodyPost_ret (results_cell_row rfl _ _ gb161 67 #[.int .i64 3, .int .i64 s0_1, .int .i64 0, .string (⟨#[]⟩ : ByteArray), .slice none 0 0, .slice none 0 0] (0, 0) _ rfl (by (with_reducible repeat (first | refine yN ?_ _ | refine yD ?_ | refine yA ?_ _)); refine blk_put (cs := #[.int .i64 3, .int .i64 s0_1, .int .i64 0, .string (⟨#[]⟩ : ByteArray), .slice none 0 0, .slice none 0 0]) ?_ 5 _ rfl; (with_reducible repeat (first | refine yN ?_ _ | refine yD ?_ | refine yA ?_ _)); refine blk_put (cs := #[.int .i64 3, .int .i64 s0_1, .int .i64 0, .string (⟨#[]⟩ : ByteArray), .slice none 0 0, .slice none 0 0]) ?_ 4 _ rfl; (with_reducible repeat (first | refine yN ?_ _ | refine yD ?_ | refine yA ?_ _)); refine blk_put (cs := #[.int .i64 3, .int .i64 s0_1, .int .i64 0, .string (⟨#[]⟩ : ByteArray), .slice none 0 0, .slice none 0 0]) ?_ 3 _ rfl; (with_reducible repeat (first | refine yN ?_ _ | refine yD ?_ | refine yA ?_ _)); refine blk_put (cs := #[.int .i64 3, .int .i64 s0_1, .int .i64 0, .string (⟨#[]⟩ : ByteArray), .slice none 0 0, .slice none 0 0]) ?_ 2 _ rfl; (with_reducible repeat (first | refine yN ?_ _ | refine yD ?_ | refine yA ?_ _)); refine blk_put (cs := #[.int .i64 3, .int .i64 0, .int .i64 0, .string (⟨#[]⟩ : ByteArray), .slice none 0 0, .slice none 0 0]) ?_ 1 _ rfl; (with_reducible repeat (first | refine yN ?_ _ | refine yD ?_ | refine yA ?_ _)); refine blk_put (cs := #[.int .i64 0, .int .i64 0, .int .i64 0, .string (⟨#[]⟩ : ByteArray), .slice none 0 0, .slice none 0 0]) ?_ 0 _ rfl; (with_reducible repeat (first | refine yN ?_ _ | refine yD ?_ | refine yA ?_ _)); exact BK161.out) Tryd.underlying67 rfl (by kernel_rfl)) rfl ?_
            exact ⟨_, _, by first | rfl | (simp [errW_none, errW_some] <;> rfl) | (simp [*, errW_none, errW_some] <;> rfl), by first | exact Kd.R_nil _ _ _ _ _ | exact Kd.N_nil _ _ _ _ _ | exact Kd.V_nil _ _ _ _ _ | exact Kd.Q_nil _ _ _ _ _ | exact Kd.S_nil _ _ _ _ _, by first | exact Kd.R_nil _ _ _ _ _ | exact Kd.N_nil _ _ _ _ _ | exact Kd.V_nil _ _ _ _ _ | exact Kd.Q_nil _ _ _ _ _ | exact Kd.S_nil _ _ _ _ _, by repeat (first | (with_reducible first | exact HI0.out | apply wA | apply wN | apply wD | apply w_0 | apply w_1 | apply w_2 | apply w_3 | refine wR ?_ NB0_161.out _ | refine wR ?_ NB0_162.out _) | exact HI0.out), by repeat (first | (with_reducible first | exact HB.out | apply zA | apply zN | apply zD | refine zq9 ?_ (wG HI0.out) | refine zq9 ?_ GE161.out | refine zq9 ?_ GE162.out) | exact HB.out), by repeat (first | (with_reducible first | exact HK.out | apply yK | apply zk | apply zl9 | apply zm | refine keep_far ?_ GW161.out _ | refine keep_far ?_ GW162.out _) | exact HK.out)⟩
           ·rw [if_neg c50] at H
            have c50b0 : decide ((t183.size : Int) ≤ x5_1) = false := decide_eq_false c50
            clear c50
            by_cases c62 : x5_1 < (t183.size : Int)
            ·rw [if_pos c62] at H
             have c62b0 : decide (x5_1 < (t183.size : Int)) = true := decide_eq_true c62
             clear c62
             by_cases c64 : (bt t183 x5_1) = 34
             ·rw [if_pos c64] at H
              cases H
             ·rw [if_neg c64] at H
              have c64b0 : ((bt t183 x5_1) == 34) = false := yB c64
              have c64b1 : ((bt t183 x5_1) != 34) = true := bne_iff_ne.mpr c64
              replace H := yO H
              obtain ⟨⟨t191, t192, t193, t194⟩, A750, H⟩ := H
              replace H : (some (3, s0_1, 0, (⟨#[]⟩ : ByteArray), ([] : List (S67)), ([] : List (S67)), t191, t192, t193, t194)) = some (r1, r2, r3, r4, r5, r6, r7, r8, r9, r10) := H
              have A75 := yM A750
              clear A750
              simp only [Option.some.injEq, Prod.mk.injEq] at H
              obtain ⟨rfl, rfl, rfl, rfl, rfl, rfl, rfl, rfl, rfl, rfl⟩ := H
              obtain ⟨HGz76, hgz76⟩ := HI0.out
              have hcz76_0 := cellS79_0 HGz76
              have hcz76_1 := cellS79_1 HGz76
              have hcz76_2 := cellS79_2 HGz76
              have hcz76_3 := cellS79_3 HGz76
              have hfz76_0 := yF HGz76 0
              have hfz76_1 := yF HGz76 1
              have hfz76_2 := yF HGz76 2
              have hfz76_3 := yF HGz76 3
              clear HGz76 hgz76
              have p18 : 0 ≤ (x5_1 : Int) := yQ (by first | (with_reducible assumption) | assumption)
              have q18 : x5_1 < (x1000_1.size : Int) := yQ (by first | (with_reducible assumption) | assumption)
              have hx18 := bt_at x1000_1 x5_1
              replace p18 := eq_true p18
              replace q18 := eq_true q18
              have p46 : 0 ≤ (x5_1 : Int) := yQ (by first | (with_reducible assumption) | assumption)
              have q46 : x5_1 < (x1000_1.size : Int) := yQ (by first | (with_reducible assumption) | assumption)
              have hx46 := bt_at x1000_1 x5_1
              replace p46 := eq_true p46
              replace q46 := eq_true q46
              obtain ⟨Ao77, co77, eo77⟩ := Kd.R_slice HO_4.out
              subst eo77
              go_wp2_with (first | ((with_reducible refine gate_callee (f := 64) rfl ?_); refine goesL_ (some 63) rfl rfl Tryd.func64 (by kernel_rfl) rfl #[.pointer (some ⟨g, 0, none⟩), .slice Ao77 x4_1.length co77, .int .i64 x5_1] rfl (by (try simp only [List.map_toArray, List.map_cons, List.map_nil]); first | done | rfl | (simp only [List.length_drop, List.length_take]; rfl)) ?_; (with_reducible refine (T_escape.calls kj8 g x1000_1 x1001_1 x1002_1 x1003_1 (fun k_ => some k_ = (.slice Ao77 x4_1.length co77 : Value).ownBlock) (.slice Ao77 x4_1.length co77) x4_1 x5_1 t179 t182 t183 t184 t185 t186 w0 _ ?side1 ?side2 ?side3 A48.out).mono ?_); (case side1 => repeat (first | (with_reducible first | exact HI0.out | apply wA | apply wN | apply wD | apply w_0 | apply w_1 | apply w_2 | apply w_3 | refine wR ?_ NB0_161.out _ | refine wR ?_ NB0_162.out _) | exact HI0.out)); (case side2 => repeat (first | (with_reducible first | exact HB.out | apply zA | apply zN | apply zD | refine zq9 ?_ (wG HI0.out) | refine zq9 ?_ GE161.out | refine zq9 ?_ GE162.out) | exact HB.out)); (case side3 => exact Kd.R_lower (Kd.R_tight rfl HO_4.out) HL.out); rintro e w78 ⟨v180, rfl, ho0, hi, hb, hkp⟩; refine ⟨_, rfl, ?_⟩; have n0_ := yM (blk_kept (by (with_reducible repeat (first | refine yN ?_ _ | refine yD ?_ | refine yA ?_ _)); exact BK161.out) hkp (fun hs_ => Or.elim hs_ (fun hs_ => (fun e_ => (Kd.R_ne HO_4.out BK161.out (by decide)) e_) hs_) (fun e_ => NB161_0.out e_))); have n1_ := yM (blk_kept (by (with_reducible repeat (first | refine yN ?_ _ | refine yD ?_ | refine yA ?_ _)); exact BK162.out) hkp (fun hs_ => Or.elim hs_ (fun hs_ => (fun e_ => (Kd.R_ne HO_4.out BK162.out (by decide)) e_) hs_) (fun e_ => NB162_0.out e_))); have n2_ := yM (hi); have n3_ := yM (Kd.R_mono (ok' := fun k_ => True) (Kd.R_raise (d := (Kd.int .u8)) (b := w0.heap.size) (b' := w.heap.size) (fun _ _ _ _ h_ => h_) ho0 (fun k_ e_ => Or.elim (ho0.1 k_ e_) (fun hs_ => (fun e_ => Kd.R_base HO_4.out k_ e_.symm) hs_) (fun hn_ => Nat.le_trans (keep_size (w := w) (g := g) (row := none) (by repeat (first | (with_reducible first | exact HK.out | apply yK | apply zk | apply zl9 | apply zm | refine keep_far ?_ GW161.out _ | refine keep_far ?_ GW162.out _) | exact HK.out))) hn_))) (fun k_ hk_ => trivial)); have n4_ := yM (Kept.keepG (by repeat (first | (with_reducible first | exact HK.out | apply yK | apply zk | apply zl9 | apply zm | refine keep_far ?_ GW161.out _ | refine keep_far ?_ GW162.out _) | exact HK.out)) hkp (fun k_ hs_ => Or.elim hs_ (fun hs_ => (fun e_ => .inr (Kd.R_base HO_4.out k_ e_.symm)) hs_) (fun e_ => .inl e_))); have n5_ := yM (hb); clear BK161; clear BK162; clear HI0; clear HK; clear HB; clear HO_4; have BK161 := n0_; have BK162 := n1_; have HI0 := n2_; have HO181 := n3_; have HK := n4_; have HB := n5_; clear n0_ n1_ n2_ n3_ n4_ n5_; (try clear hb); (try clear hkp); (try clear ho0); obtain ⟨HGz79, hgz79⟩ := HI0.out; have hcz79_0 := cellS79_0 HGz79; have hcz79_1 := cellS79_1 HGz79; have hcz79_2 := cellS79_2 HGz79; have hcz79_3 := cellS79_3 HGz79; have hfz79_0 := yF HGz79 0; have hfz79_1 := yF HGz79 1; have hfz79_2 := yF HGz79 2; have hfz79_3 := yF HGz79 3; clear HGz79 hgz79; have p63 : 0 ≤ (x5_1 : Int) := yQ (by first | (with_reducible assumption) | assumption); have q63 : x5_1 < (t183.size : Int) := yQ (by first | (with_reducible assumption) | assumption); have hx63 := bt_at t183 x5_1; replace p63 := eq_true p63; replace q63 := eq_true q63) | ((with_reducible refine gate_callee (f := 34) rfl ?_); refine goesL_ (some 91) rfl rfl Tryd.func34 (by kernel_rfl) rfl #[.pointer (some ⟨g, 0, none⟩), .int .i64 125, .int .i64 t184] rfl (by (try simp only [List.map_toArray, List.map_cons, List.map_nil]); first | done | rfl | (simp only [List.length_drop, List.length_take]; rfl)) ?_; (with_reducible refine (T_fail.calls g t183 t184 t185 t186 125 t184 t191 t192 t193 t194 w0 _ ?side1 ?side2 A75.out).mono ?_); (case side1 => repeat (first | (with_reducible first | exact HI0.out | apply wA | apply wN | apply wD | apply w_0 | apply w_1 | apply w_2 | apply w_3 | refine wR ?_ NB0_161.out _ | refine wR ?_ NB0_162.out _) | exact HI0.out)); (case side2 => repeat (first | (with_reducible first | exact HB.out | apply zA | apply zN | apply zD | refine zq9 ?_ (wG HI0.out) | refine zq9 ?_ GE161.out | refine zq9 ?_ GE162.out) | exact HB.out)); rintro e w80 ⟨rfl, hi, hb, hk⟩; refine ⟨_, rfl, ?_⟩; have n0_ := yM (KeepBut.blk hk (g' := gb161) (o := .cells #[.int .i64 0, .int .i64 0, .int .i64 0, .string (⟨#[]⟩ : ByteArray), .slice none 0 0, .slice none 0 0] 67 (0, 0)) (by (with_reducible repeat (first | refine yN ?_ _ | refine yD ?_ | refine yA ?_ _)); exact BK161.out) NB161_0.out (by simp)); have n1_ := yM (KeepBut.blk hk (g' := gb162) (o := .cells #[.int .i64 3, .int .i64 s0_1, .int .i64 0, .string (⟨#[]⟩ : ByteArray), .slice none 0 0, .slice none 0 0] 67 (0, 0)) (by (with_reducible repeat (first | refine yN ?_ _ | refine yD ?_ | refine yA ?_ _)); exact BK162.out) NB162_0.out (by simp)); have n2_ := yM (Kd.R_mono (Kd.R_keep (IsS79.apart (show IsS79 w0 _ g t183 t184 t185 t186 from by repeat (first | (with_reducible first | exact HI0.out | apply wA | apply wN | apply wD | apply w_0 | apply w_1 | apply w_2 | apply w_3 | refine wR ?_ NB0_161.out _ | refine wR ?_ NB0_162.out _) | exact HI0.out)) (by (with_reducible repeat (first | apply Kd.R_alloc | apply Kd.R_drewN | apply Kd.R_drew)); exact HO181.out) (by decide)) hk (fun _ h => h.2)) (fun _ h => h.1)); have n3_ := yM (KeepBut.trans (by repeat (first | (with_reducible first | exact HK.out | apply yK | apply zk | apply zl9 | apply zm | refine keep_far ?_ GW161.out _ | refine keep_far ?_ GW162.out _) | exact HK.out)) hk (.inl rfl)); have n4_ := yM (hb); have n5_ := yM (hi); clear BK161; clear BK162; clear HO181; clear HK; clear HB; clear HI0; have BK161 := n0_; have BK162 := n1_; have HO181 := n2_; have HK := n3_; have HB := n4_; have HI0 := n5_; clear n0_ n1_ n2_ n3_ n4_ n5_; (try clear hb); (try clear hb2); (try clear hk); (try clear hi); have hnb81 := NB162_161.out; have hnc81 := NB161_162.out; have hnb82 := NB162_0.out; have hnc82 := NB0_162.out; have hcz83_0 : w80.cell? ⟨gb162, 0, none⟩ = some (.int .i64 3) := (yC BK162.out 0).trans rfl; have hcz83_1 : w80.cell? ⟨gb162, 1, none⟩ = some (.int .i64 s0_1) := (yC BK162.out 1).trans rfl; have hcz83_2 : w80.cell? ⟨gb162, 2, none⟩ = some (.int .i64 0) := (yC BK162.out 2).trans rfl; have hcz83_3 : w80.cell? ⟨gb162, 3, none⟩ = some (.string (⟨#[]⟩ : ByteArray)) := (yC BK162.out 3).trans rfl; have hcz83_4 : w80.cell? ⟨gb162, 4, none⟩ = some (.slice none 0 0) := (yC BK162.out 4).trans rfl; have hcz83_5 : w80.cell? ⟨gb162, 5, none⟩ = some (.slice none 0 0) := (yC BK162.out 5).trans rfl; have hfz83_0 := yF BK162.out 0; have hfz83_1 := yF BK162.out 1; have hfz83_2 := yF BK162.out 2; have hfz83_3 := yF BK162.out 3; have hfz83_4 := yF BK162.out 4; have hfz83_5 := yF BK162.out 5; have hnb84 := NB161_0.out; have hnc84 := NB0_161.out; have hcz85_0 : w80.cell? ⟨gb161, 0, none⟩ = some (.int .i64 0) := (yC BK161.out 0).trans rfl; have hcz85_1 : w80.cell? ⟨gb161, 1, none⟩ = some (.int .i64 0) := (yC BK161.out 1).trans rfl; have hcz85_2 : w80.cell? ⟨gb161, 2, none⟩ = some (.int .i64 0) := (yC BK161.out 2).trans rfl; have hcz85_3 : w80.cell? ⟨gb161, 3, none⟩ = some (.string (⟨#[]⟩ : ByteArray)) := (yC BK161.out 3).trans rfl; have hcz85_4 : w80.cell? ⟨gb161, 4, none⟩ = some (.slice none 0 0) := (yC BK161.out 4).trans rfl; have hcz85_5 : w80.cell? ⟨gb161, 5, none⟩ = some (.slice none 0 0) := (yC BK161.out 5).trans rfl; have hfz85_0 := yF BK161.out 0; have hfz85_1 := yF BK161.out 1; have hfz85_2 := yF BK161.out 2; have hfz85_3 := yF BK161.out 3; have hfz85_4 := yF BK161.out 4; have hfz85_5 := yF BK161.out 5))
              refine bodyPost_ret (results_cell_row rfl _ _ gb161 67 #[.int .i64 3, .int .i64 s0_1, .int .i64 0, .string (⟨#[]⟩ : ByteArray), .slice none 0 0, .slice none 0 0] (0, 0) _ rfl (by (with_reducible repeat (first | refine yN ?_ _ | refine yD ?_ | refine yA ?_ _)); refine blk_put (cs := #[.int .i64 3, .int .i64 s0_1, .int .i64 0, .string (⟨#[]⟩ : ByteArray), .slice none 0 0, .slice none 0 0]) ?_ 5 _ rfl; (with_reducible repeat (first | refine yN ?_ _ | refine yD ?_ | refine yA ?_ _)); refine blk_put (cs := #[.int .i64 3, .int .i64 s0_1, .int .i64 0, .string (⟨#[]⟩ : ByteArray), .slice none 0 0, .slice none 0 0]) ?_ 4 _ rfl; (with_reducible repeat (first | refine yN ?_ _ | refine yD ?_ | refine yA ?_ _)); refine blk_put (cs := #[.int .i64 3, .int .i64 s0_1, .int .i64 0, .string (⟨#[]⟩ : ByteArray), .slice none 0 0, .slice none 0 0]) ?_ 3 _ rfl; (with_reducible repeat (first | refine yN ?_ _ | refine yD ?_ | refine yA ?_ _)); refine blk_put (cs := #[.int .i64 3, .int .i64 s0_1, .int .i64 0, .string (⟨#[]⟩ : ByteArray), .slice none 0 0, .slice none 0 0]) ?_ 2 _ rfl; (with_reducible repeat (first | refine yN ?_ _ | refine yD ?_ | refine yA ?_ _)); refine blk_put (cs := #[.int .i64 3, .int .i64 0, .int .i64 0, .string (⟨#[]⟩ : ByteArray), .slice none 0 0, .slice none 0 0]) ?_ 1 _ rfl; (with_reducible repeat (first | refine yN ?_ _ | refine yD ?_ | refine yA ?_ _)); refine blk_put (cs := #[.int .i64 0, .int .i64 0, .int .i64 0, .string (⟨#[]⟩ : ByteArray), .slice none 0 0, .slice none 0 0]) ?_ 0 _ rfl; (with_reducible repeat (first | refine yN ?_ _ | refine yD ?_ | refine yA ?_ _)); exact BK161.out) Tryd.underlying67 rfl (by kernel_rfl)) rfl ?_
              exact ⟨_, _, by first | rfl | (simp [errW_none, errW_some] <;> rfl) | (simp [*, errW_none, errW_some] <;> rfl), by first | exact Kd.R_nil _ _ _ _ _ | exact Kd.N_nil _ _ _ _ _ | exact Kd.V_nil _ _ _ _ _ | exact Kd.Q_nil _ _ _ _ _ | exact Kd.S_nil _ _ _ _ _, by first | exact Kd.R_nil _ _ _ _ _ | exact Kd.N_nil _ _ _ _ _ | exact Kd.V_nil _ _ _ _ _ | exact Kd.Q_nil _ _ _ _ _ | exact Kd.S_nil _ _ _ _ _, by repeat (first | (with_reducible first | exact HI0.out | apply wA | apply wN | apply wD | apply w_0 | apply w_1 | apply w_2 | apply w_3 | refine wR ?_ NB0_161.out _ | refine wR ?_ NB0_162.out _) | exact HI0.out), by repeat (first | (with_reducible first | exact HB.out | apply zA | apply zN | apply zD | refine zq9 ?_ (wG HI0.out) | refine zq9 ?_ GE161.out | refine zq9 ?_ GE162.out) | exact HB.out), by repeat (first | (with_reducible first | exact HK.out | apply yK | apply zk | apply zl9 | apply zm | refine keep_far ?_ GW161.out _ | refine keep_far ?_ GW162.out _) | exact HK.out)⟩
            ·rw [if_neg c62] at H
             exact absurd H (by simp)
          ·rw [if_neg c49] at H
           have c49b0 : (t182 == 0) = false := yB c49
           have c49b1 : (t182 != 0) = true := bne_iff_ne.mpr c49
           have H' := yM H
           clear H
           obtain ⟨HGz86, hgz86⟩ := HI0.out
           have hcz86_0 := cellS79_0 HGz86
           have hcz86_1 := cellS79_1 HGz86
           have hcz86_2 := cellS79_2 HGz86
           have hcz86_3 := cellS79_3 HGz86
           have hfz86_0 := yF HGz86 0
           have hfz86_1 := yF HGz86 1
           have hfz86_2 := yF HGz86 2
           have hfz86_3 := yF HGz86 3
           clear HGz86 hgz86
           have p18 : 0 ≤ (x5_1 : Int) := yQ (by first | (with_reducible assumption) | assumption)
           have q18 : x5_1 < (x1000_1.size : Int) := yQ (by first | (with_reducible assumption) | assumption)
           have hx18 := bt_at x1000_1 x5_1
           replace p18 := eq_true p18
           replace q18 := eq_true q18
           have p46 : 0 ≤ (x5_1 : Int) := yQ (by first | (with_reducible assumption) | assumption)
           have q46 : x5_1 < (x1000_1.size : Int) := yQ (by first | (with_reducible assumption) | assumption)
           have hx46 := bt_at x1000_1 x5_1
           replace p46 := eq_true p46
           replace q46 := eq_true q46
           obtain ⟨Ao87, co87, eo87⟩ := Kd.R_slice HO_4.out
           subst eo87
           go_wp2_with (first | ((with_reducible refine gate_callee (f := 64) rfl ?_); refine goesL_ (some 63) rfl rfl Tryd.func64 (by kernel_rfl) rfl #[.pointer (some ⟨g, 0, none⟩), .slice Ao87 x4_1.length co87, .int .i64 x5_1] rfl (by (try simp only [List.map_toArray, List.map_cons, List.map_nil]); first | done | rfl | (simp only [List.length_drop, List.length_take]; rfl)) ?_; (with_reducible refine (T_escape.calls kj8 g x1000_1 x1001_1 x1002_1 x1003_1 (fun k_ => some k_ = (.slice Ao87 x4_1.length co87 : Value).ownBlock) (.slice Ao87 x4_1.length co87) x4_1 x5_1 t179 t182 t183 t184 t185 t186 w0 _ ?side1 ?side2 ?side3 A48.out).mono ?_); (case side1 => repeat (first | (with_reducible first | exact HI0.out | apply wA | apply wN | apply wD | apply w_0 | apply w_1 | apply w_2 | apply w_3 | refine wR ?_ NB0_161.out _ | refine wR ?_ NB0_162.out _) | exact HI0.out)); (case side2 => repeat (first | (with_reducible first | exact HB.out | apply zA | apply zN | apply zD | refine zq9 ?_ (wG HI0.out) | refine zq9 ?_ GE161.out | refine zq9 ?_ GE162.out) | exact HB.out)); (case side3 => exact Kd.R_lower (Kd.R_tight rfl HO_4.out) HL.out); rintro e w88 ⟨v180, rfl, ho0, hi, hb, hkp⟩; refine ⟨_, rfl, ?_⟩; have n0_ := yM (blk_kept (by (with_reducible repeat (first | refine yN ?_ _ | refine yD ?_ | refine yA ?_ _)); exact BK161.out) hkp (fun hs_ => Or.elim hs_ (fun hs_ => (fun e_ => (Kd.R_ne HO_4.out BK161.out (by decide)) e_) hs_) (fun e_ => NB161_0.out e_))); have n1_ := yM (blk_kept (by (with_reducible repeat (first | refine yN ?_ _ | refine yD ?_ | refine yA ?_ _)); exact BK162.out) hkp (fun hs_ => Or.elim hs_ (fun hs_ => (fun e_ => (Kd.R_ne HO_4.out BK162.out (by decide)) e_) hs_) (fun e_ => NB162_0.out e_))); have n2_ := yM (hi); have n3_ := yM (Kd.R_mono (ok' := fun k_ => True) (Kd.R_raise (d := (Kd.int .u8)) (b := w0.heap.size) (b' := w.heap.size) (fun _ _ _ _ h_ => h_) ho0 (fun k_ e_ => Or.elim (ho0.1 k_ e_) (fun hs_ => (fun e_ => Kd.R_base HO_4.out k_ e_.symm) hs_) (fun hn_ => Nat.le_trans (keep_size (w := w) (g := g) (row := none) (by repeat (first | (with_reducible first | exact HK.out | apply yK | apply zk | apply zl9 | apply zm | refine keep_far ?_ GW161.out _ | refine keep_far ?_ GW162.out _) | exact HK.out))) hn_))) (fun k_ hk_ => trivial)); have n4_ := yM (Kept.keepG (by repeat (first | (with_reducible first | exact HK.out | apply yK | apply zk | apply zl9 | apply zm | refine keep_far ?_ GW161.out _ | refine keep_far ?_ GW162.out _) | exact HK.out)) hkp (fun k_ hs_ => Or.elim hs_ (fun hs_ => (fun e_ => .inr (Kd.R_base HO_4.out k_ e_.symm)) hs_) (fun e_ => .inl e_))); have n5_ := yM (hb); clear BK161; clear BK162; clear HI0; clear HK; clear HB; clear HO_4; have BK161 := n0_; have BK162 := n1_; have HI0 := n2_; have HO181 := n3_; have HK := n4_; have HB := n5_; clear n0_ n1_ n2_ n3_ n4_ n5_; (try clear hb); (try clear hkp); (try clear ho0)))
           go_roundg kj8
           case measure => have := HK1.out; have := HJ8.out; omega
           case rel => exact ⟨(t179), (t182), (t183), (t184), (t185), (t186), (by first | rfl | (simp; done) | (simp [*]; done)), H', ⟨by have := HK1.out; have := HJ8.out; omega⟩, ⟨by (with_reducible repeat (first | apply Kd.R_alloc | apply Kd.R_drewN | apply Kd.R_drew)); exact HO181.out⟩, ⟨by (with_reducible repeat (first | refine yN ?_ _ | refine yD ?_ | refine yA ?_ _)); exact BK161.out⟩, ⟨by (with_reducible repeat (first | refine yN ?_ _ | refine yD ?_ | refine yA ?_ _)); exact BK162.out⟩, ⟨by repeat (first | (with_reducible first | exact HI0.out | apply wA | apply wN | apply wD | apply w_0 | apply w_1 | apply w_2 | apply w_3 | refine wR ?_ NB0_161.out _ | refine wR ?_ NB0_162.out _) | exact HI0.out)⟩, ⟨by repeat (first | (with_reducible first | exact HK.out | apply yK | apply zk | apply zl9 | apply zm | refine keep_far ?_ GW161.out _ | refine keep_far ?_ GW162.out _) | exact HK.out)⟩, ⟨by repeat (first | (with_reducible first | exact HB.out | apply zA | apply zN | apply zD | refine zq9 ?_ (wG HI0.out) | refine zq9 ?_ GE161.out | refine zq9 ?_ GE162.out) | exact HB.out)⟩⟩
         ·rw [if_neg c47] at H
          have c47b0 : ((bt x1000_1 x5_1) == 92) = false := yB c47
          have c47b1 : ((bt x1000_1 x5_1) != 92) = true := bne_iff_ne.mpr c47
          by_cases c90 : x4_1.length < 140737488355328
          ·rw [if_pos c90] at H
           have LMc90 := yM c90
           clear c90
           obtain ⟨y195, hy195⟩ : ∃ y_ : List Int, y_ = (x4_1 ++ [bt x1000_1 x5_1]) := ⟨_, rfl⟩
           replace H : (T_text.l0 kj8 y195 (wrap64 (x5_1 + 1)) x1000_1 x1001_1 x1002_1 x1003_1 3 s0_1 0 (⟨#[]⟩ : ByteArray)) = some (r1, r2, r3, r4, r5, r6, r7, r8, r9, r10) := by first | (rw [hy195]; with_reducible exact H) | (have H2_ := (Option.bind_some _ _).symm.trans H; rw [hy195]; with_reducible exact H2_) | (have H2_ := (Option.bind_some _ _).symm.trans H; with_reducible exact H2_) | with_reducible exact H | (rw [hy195]; exact H) | exact H
           have Ny195 := yM hy195
           clear hy195
           have H' := yM H
           clear H
           obtain ⟨HGz91, hgz91⟩ := HI0.out
           have hcz91_0 := cellS79_0 HGz91
           have hcz91_1 := cellS79_1 HGz91
           have hcz91_2 := cellS79_2 HGz91
           have hcz91_3 := cellS79_3 HGz91
           have hfz91_0 := yF HGz91 0
           have hfz91_1 := yF HGz91 1
           have hfz91_2 := yF HGz91 2
           have hfz91_3 := yF HGz91 3
           clear HGz91 hgz91
           have p18 : 0 ≤ (x5_1 : Int) := yQ (by first | (with_reducible assumption) | assumption)
           have q18 : x5_1 < (x1000_1.size : Int) := yQ (by first | (with_reducible assumption) | assumption)
           have hx18 := bt_at x1000_1 x5_1
           replace p18 := eq_true p18
           replace q18 := eq_true q18
           have p46 : 0 ≤ (x5_1 : Int) := yQ (by first | (with_reducible assumption) | assumption)
           have q46 : x5_1 < (x1000_1.size : Int) := yQ (by first | (with_reducible assumption) | assumption)
           have hx46 := bt_at x1000_1 x5_1
           replace p46 := eq_true p46
           replace q46 := eq_true q46
           have p89 : 0 ≤ (x5_1 : Int) := yQ (by first | (with_reducible assumption) | assumption)
           have q89 : x5_1 < (x1000_1.size : Int) := yQ (by first | (with_reducible assumption) | assumption)
           have hx89 := bt_at x1000_1 x5_1
           replace p89 := eq_true p89
           replace q89 := eq_true q89
           go_wp2_with (first | ((with_reducible refine gate_builtin (b := .append) (xs := #[.tmp 48, .tmp 55]) rfl ?_); at_builtin; refine Kd.R_append (Kd.int .u8) w.heap.size rfl (.tmp 48) (.tmp 55) 49 5 (.int .u8 0) 1 rfl Tryd.underlying49 info5 rfl (by decide) (by omega) u4 x4_1 (bt x1000_1 x5_1) [.int .u8 (bt x1000_1 x5_1)] (fun _ => True) (fun _ => False) rfl rfl ?aP (fun _ hk => hk.elim) ?aF ?aO (Below.refl _ _) ?aS ?aL ?_; (case aP => exact rfl); (case aF => exact (fun _ _ => trivial)); (case aO => exact (by (with_reducible repeat (first | apply Kd.R_alloc | apply Kd.R_drewN | apply Kd.R_drew)); exact HO_4.out)); (case aS => exact (keep_size (w := w) (g := g) (row := none) (by repeat (first | (with_reducible first | exact HK.out | apply yK | apply zk | apply zl9 | apply zm | refine keep_far ?_ GW161.out _ | refine keep_far ?_ GW162.out _) | exact HK.out)))); (case aL => have := LMc90.out; omega); intro v196 w92 ho hb hg hat; rw [← Ny195.out] at ho; have n0_ := yM (blk_grown (g := gb161) (o := .cells #[.int .i64 0, .int .i64 0, .int .i64 0, .string (⟨#[]⟩ : ByteArray), .slice none 0 0, .slice none 0 0] 67 (0, 0)) (by (with_reducible repeat (first | refine yN ?_ _ | refine yD ?_ | refine yA ?_ _)); exact BK161.out) hg (Kd.R_ne HO_4.out BK161.out (by decide))); have n1_ := yM (blk_grown (g := gb162) (o := .cells #[.int .i64 3, .int .i64 s0_1, .int .i64 0, .string (⟨#[]⟩ : ByteArray), .slice none 0 0, .slice none 0 0] 67 (0, 0)) (by (with_reducible repeat (first | refine yN ?_ _ | refine yD ?_ | refine yA ?_ _)); exact BK162.out) hg (Kd.R_ne HO_4.out BK162.out (by decide))); have n2_ := yM (IsS79.grown (by repeat (first | (with_reducible first | exact HI0.out | apply wA | apply wN | apply wD | apply w_0 | apply w_1 | apply w_2 | apply w_3 | refine wR ?_ NB0_161.out _ | refine wR ?_ NB0_162.out _) | exact HI0.out)) hg (IsS79.own_ne HI0.out HO_4.out (by decide))); have n3_ := yM (below_weaken (by repeat (first | (with_reducible first | exact HB.out | apply zA | apply zN | apply zD | refine zq9 ?_ (wG HI0.out) | refine zq9 ?_ GE161.out | refine zq9 ?_ GE162.out) | exact HB.out)) HL.out hb); have n4_ := yM (KeepBut.trans (by repeat (first | (with_reducible first | exact HK.out | apply yK | apply zk | apply zl9 | apply zm | refine keep_far ?_ GW161.out _ | refine keep_far ?_ GW162.out _) | exact HK.out)) (KeepBut.of_grown hg g) (Kd.R_base2 HO_4.out)); have n5_ := yM (ho); clear BK161; clear BK162; clear HI0; clear HB; clear HK; clear HO_4; have BK161 := n0_; have BK162 := n1_; have HI0 := n2_; have HB := n3_; have HK := n4_; have HO197 := n5_; clear n0_ n1_ n2_ n3_ n4_ n5_; clear ho hb hg hat))
           go_roundg kj8
           case measure => have := HK1.out; have := HJ8.out; omega
           case rel => exact ⟨(y195), (wrap64 (x5_1 + 1)), (x1000_1), (x1001_1), (x1002_1), (x1003_1), (by first | rfl | (simp; done) | (simp [*]; done)), H', ⟨by have := HK1.out; have := HJ8.out; omega⟩, ⟨by (with_reducible repeat (first | apply Kd.R_alloc | apply Kd.R_drewN | apply Kd.R_drew)); exact HO197.out⟩, ⟨by (with_reducible repeat (first | refine yN ?_ _ | refine yD ?_ | refine yA ?_ _)); exact BK161.out⟩, ⟨by (with_reducible repeat (first | refine yN ?_ _ | refine yD ?_ | refine yA ?_ _)); exact BK162.out⟩, ⟨by repeat (first | (with_reducible first | exact HI0.out | apply wA | apply wN | apply wD | apply w_0 | apply w_1 | apply w_2 | apply w_3 | refine wR ?_ NB0_161.out _ | refine wR ?_ NB0_162.out _) | exact HI0.out)⟩, ⟨by repeat (first | (with_reducible first | exact HK.out | apply yK | apply zk | apply zl9 | apply zm | refine keep_far ?_ GW161.out _ | refine keep_far ?_ GW162.out _) | exact HK.out)⟩, ⟨by repeat (first | (with_reducible first | exact HB.out | apply zA | apply zN | apply zD | refine zq9 ?_ (wG HI0.out) | refine zq9 ?_ GE161.out | refine zq9 ?_ GE162.out) | exact HB.out)⟩⟩
          ·rw [if_neg c90] at H
           exact absurd H (by simp)
       ·rw [if_neg c17] at H
        exact absurd H (by simp)
      ·rw [if_neg c16] at H
       exact absurd H (by simp)
     ·replace c15 := Bool.eq_false_iff.mpr c15
      subst c15
      have H1 : (if x5_1 ≥ (x1000_1.size : Int) then ((T_fail.f x1000_1 x1001_1 x1002_1 x1003_1 125 x1001_1).bind fun bt163 => (some (3, s0_1, 0, (⟨#[]⟩ : ByteArray), ([] : List (S67)), ([] : List (S67)), bt163.1, bt163.2.1, bt163.2.2.1, bt163.2.2.2))) else (if 0 ≤ x5_1 then (if x5_1 < (x1000_1.size : Int) then (if (bt x1000_1 x5_1) = 34 then (some (3, s0_1, wrap64 (x5_1 + 1), strOfNums x4_1, ([] : List (S67)), ([] : List (S67)), x1000_1, wrap64 (x5_1 + 1), x1002_1, x1003_1)) else ((T_fail.f x1000_1 x1001_1 x1002_1 x1003_1 125 x1001_1).bind fun bt167 => (some (3, s0_1, 0, (⟨#[]⟩ : ByteArray), ([] : List (S67)), ([] : List (S67)), bt167.1, bt167.2.1, bt167.2.2.1, bt167.2.2.2)))) else (none)) else (none))) = some (r1, r2, r3, r4, r5, r6, r7, r8, r9, r10) := by rw [if_neg (show ¬ (false = true) by decide)] at H; exact H
      clear H
      have H := H1
      clear H1
      by_cases c93 : x5_1 ≥ (x1000_1.size : Int)
      ·rw [if_pos c93] at H
       have c93b0 : decide ((x1000_1.size : Int) ≤ x5_1) = true := decide_eq_true c93
       clear c93
       replace H := yO H
       obtain ⟨⟨t163, t164, t165, t166⟩, A940, H⟩ := H
       replace H : (some (3, s0_1, 0, (⟨#[]⟩ : ByteArray), ([] : List (S67)), ([] : List (S67)), t163, t164, t165, t166)) = some (r1, r2, r3, r4, r5, r6, r7, r8, r9, r10) := H
       have A94 := yM A940
       clear A940
       simp only [Option.some.injEq, Prod.mk.injEq] at H
       obtain ⟨rfl, rfl, rfl, rfl, rfl, rfl, rfl, rfl, rfl, rfl⟩ := H
       obtain ⟨HGz95, hgz95⟩ := HI0.out
       have hcz95_0 := cellS79_0 HGz95
       have hcz95_1 := cellS79_1 HGz95
       have hcz95_2 := cellS79_2 HGz95
       have hcz95_3 := cellS79_3 HGz95
       have hfz95_0 := yF HGz95 0
       have hfz95_1 := yF HGz95 1
       have hfz95_2 := yF HGz95 2
       have hfz95_3 := yF HGz95 3
       clear HGz95 hgz95
       go_wp2_with (first | ((with_reducible refine gate_callee (f := 34) rfl ?_); refine goesL_ (some 91) rfl rfl Tryd.func34 (by kernel_rfl) rfl #[.pointer (some ⟨g, 0, none⟩), .int .i64 125, .int .i64 x1001_1] rfl (by (try simp only [List.map_toArray, List.map_cons, List.map_nil]); first | done | rfl | (simp only [List.length_drop, List.length_take]; rfl)) ?_; (with_reducible refine (T_fail.calls g x1000_1 x1001_1 x1002_1 x1003_1 125 x1001_1 t163 t164 t165 t166 w0 _ ?side1 ?side2 A94.out).mono ?_); (case side1 => repeat (first | (with_reducible first | exact HI0.out | apply wA | apply wN | apply wD | apply w_0 | apply w_1 | apply w_2 | apply w_3 | refine wR ?_ NB0_161.out _ | refine wR ?_ NB0_162.out _) | exact HI0.out)); (case side2 => repeat (first | (with_reducible first | exact HB.out | apply zA | apply zN | apply zD | refine zq9 ?_ (wG HI0.out) | refine zq9 ?_ GE161.out | refine zq9 ?_ GE162.out) | exact HB.out)); rintro e w96 ⟨rfl, hi, hb, hk⟩; refine ⟨_, rfl, ?_⟩; have n0_ := yM (Kd.R_mono (Kd.R_keep (IsS79.apart (show IsS79 w0 _ g x1000_1 x1001_1 x1002_1 x1003_1 from by repeat (first | (with_reducible first | exact HI0.out | apply wA | apply wN | apply wD | apply w_0 | apply w_1 | apply w_2 | apply w_3 | refine wR ?_ NB0_161.out _ | refine wR ?_ NB0_162.out _) | exact HI0.out)) (by (with_reducible repeat (first | apply Kd.R_alloc | apply Kd.R_drewN | apply Kd.R_drew)); exact HO_4.out) (by decide)) hk (fun _ h => h.2)) (fun _ h => h.1)); have n1_ := yM (KeepBut.blk hk (g' := gb161) (o := .cells #[.int .i64 0, .int .i64 0, .int .i64 0, .string (⟨#[]⟩ : ByteArray), .slice none 0 0, .slice none 0 0] 67 (0, 0)) (by (with_reducible repeat (first | refine yN ?_ _ | refine yD ?_ | refine yA ?_ _)); exact BK161.out) NB161_0.out (by simp)); have n2_ := yM (KeepBut.blk hk (g' := gb162) (o := .cells #[.int .i64 3, .int .i64 s0_1, .int .i64 0, .string (⟨#[]⟩ : ByteArray), .slice none 0 0, .slice none 0 0] 67 (0, 0)) (by (with_reducible repeat (first | refine yN ?_ _ | refine yD ?_ | refine yA ?_ _)); exact BK162.out) NB162_0.out (by simp)); have n3_ := yM (KeepBut.trans (by repeat (first | (with_reducible first | exact HK.out | apply yK | apply zk | apply zl9 | apply zm | refine keep_far ?_ GW161.out _ | refine keep_far ?_ GW162.out _) | exact HK.out)) hk (.inl rfl)); have n4_ := yM (hb); have n5_ := yM (hi); clear HO_4; clear BK161; clear BK162; clear HK; clear HB; clear HI0; have HO_4 := n0_; have BK161 := n1_; have BK162 := n2_; have HK := n3_; have HB := n4_; have HI0 := n5_; clear n0_ n1_ n2_ n3_ n4_ n5_; (try clear hb); (try clear hb2); (try clear hk); (try clear hi); have hnb97 := NB162_161.out; have hnc97 := NB161_162.out; have hnb98 := NB162_0.out; have hnc98 := NB0_162.out; have hcz99_0 : w96.cell? ⟨gb162, 0, none⟩ = some (.int .i64 3) := (yC BK162.out 0).trans rfl; have hcz99_1 : w96.cell? ⟨gb162, 1, none⟩ = some (.int .i64 s0_1) := (yC BK162.out 1).trans rfl; have hcz99_2 : w96.cell? ⟨gb162, 2, none⟩ = some (.int .i64 0) := (yC BK162.out 2).trans rfl; have hcz99_3 : w96.cell? ⟨gb162, 3, none⟩ = some (.string (⟨#[]⟩ : ByteArray)) := (yC BK162.out 3).trans rfl; have hcz99_4 : w96.cell? ⟨gb162, 4, none⟩ = some (.slice none 0 0) := (yC BK162.out 4).trans rfl; have hcz99_5 : w96.cell? ⟨gb162, 5, none⟩ = some (.slice none 0 0) := (yC BK162.out 5).trans rfl; have hfz99_0 := yF BK162.out 0; have hfz99_1 := yF BK162.out 1; have hfz99_2 := yF BK162.out 2; have hfz99_3 := yF BK162.out 3; have hfz99_4 := yF BK162.out 4; have hfz99_5 := yF BK162.out 5; have hnb100 := NB161_0.out; have hnc100 := NB0_161.out; have hcz101_0 : w96.cell? ⟨gb161, 0, none⟩ = some (.int .i64 0) := (yC BK161.out 0).trans rfl; have hcz101_1 : w96.cell? ⟨gb161, 1, none⟩ = some (.int .i64 0) := (yC BK161.out 1).trans rfl; have hcz101_2 : w96.cell? ⟨gb161, 2, none⟩ = some (.int .i64 0) := (yC BK161.out 2).trans rfl; have hcz101_3 : w96.cell? ⟨gb161, 3, none⟩ = some (.string (⟨#[]⟩ : ByteArray)) := (yC BK161.out 3).trans rfl; have hcz101_4 : w96.cell? ⟨gb161, 4, none⟩ = some (.slice none 0 0) := (yC BK161.out 4).trans rfl; have hcz101_5 : w96.cell? ⟨gb161, 5, none⟩ = some (.slice none 0 0) := (yC BK161.out 5).trans rfl; have hfz101_0 := yF BK161.out 0; have hfz101_1 := yF BK161.out 1; have hfz101_2 := yF BK161.out 2; have hfz101_3 := yF BK161.out 3; have hfz101_4 := yF BK161.out 4; have hfz101_5 := yF BK161.out 5))
       refine bodyPost_ret (results_cell_row rfl _ _ gb161 67 #[.int .i64 3, .int .i64 s0_1, .int .i64 0, .string (⟨#[]⟩ : ByteArray), .slice none 0 0, .slice none 0 0] (0, 0) _ rfl (by (with_reducible repeat (first | refine yN ?_ _ | refine yD ?_ | refine yA ?_ _)); refine blk_put (cs := #[.int .i64 3, .int .i64 s0_1, .int .i64 0, .string (⟨#[]⟩ : ByteArray), .slice none 0 0, .slice none 0 0]) ?_ 5 _ rfl; (with_reducible repeat (first | refine yN ?_ _ | refine yD ?_ | refine yA ?_ _)); refine blk_put (cs := #[.int .i64 3, .int .i64 s0_1, .int .i64 0, .string (⟨#[]⟩ : ByteArray), .slice none 0 0, .slice none 0 0]) ?_ 4 _ rfl; (with_reducible repeat (first | refine yN ?_ _ | refine yD ?_ | refine yA ?_ _)); refine blk_put (cs := #[.int .i64 3, .int .i64 s0_1, .int .i64 0, .string (⟨#[]⟩ : ByteArray), .slice none 0 0, .slice none 0 0]) ?_ 3 _ rfl; (with_reducible repeat (first | refine yN ?_ _ | refine yD ?_ | refine yA ?_ _)); refine blk_put (cs := #[.int .i64 3, .int .i64 s0_1, .int .i64 0, .string (⟨#[]⟩ : ByteArray), .slice none 0 0, .slice none 0 0]) ?_ 2 _ rfl; (with_reducible repeat (first | refine yN ?_ _ | refine yD ?_ | refine yA ?_ _)); refine blk_put (cs := #[.int .i64 3, .int .i64 0, .int .i64 0, .string (⟨#[]⟩ : ByteArray), .slice none 0 0, .slice none 0 0]) ?_ 1 _ rfl; (with_reducible repeat (first | refine yN ?_ _ | refine yD ?_ | refine yA ?_ _)); refine blk_put (cs := #[.int .i64 0, .int .i64 0, .int .i64 0, .string (⟨#[]⟩ : ByteArray), .slice none 0 0, .slice none 0 0]) ?_ 0 _ rfl; (with_reducible repeat (first | refine yN ?_ _ | refine yD ?_ | refine yA ?_ _)); exact BK161.out) Tryd.underlying67 rfl (by kernel_rfl)) rfl ?_
       exact ⟨_, _, by first | rfl | (simp [errW_none, errW_some] <;> rfl) | (simp [*, errW_none, errW_some] <;> rfl), by first | exact Kd.R_nil _ _ _ _ _ | exact Kd.N_nil _ _ _ _ _ | exact Kd.V_nil _ _ _ _ _ | exact Kd.Q_nil _ _ _ _ _ | exact Kd.S_nil _ _ _ _ _, by first | exact Kd.R_nil _ _ _ _ _ | exact Kd.N_nil _ _ _ _ _ | exact Kd.V_nil _ _ _ _ _ | exact Kd.Q_nil _ _ _ _ _ | exact Kd.S_nil _ _ _ _ _, by repeat (first | (with_reducible first | exact HI0.out | apply wA | apply wN | apply wD | apply w_0 | apply w_1 | apply w_2 | apply w_3 | refine wR ?_ NB0_161.out _ | refine wR ?_ NB0_162.out _) | exact HI0.out), by repeat (first | (with_reducible first | exact HB.out | apply zA | apply zN | apply zD | refine zq9 ?_ (wG HI0.out) | refine zq9 ?_ GE161.out | refine zq9 ?_ GE162.out) | exact HB.out), by repeat (first | (with_reducible first | exact HK.out | apply yK | apply zk | apply zl9 | apply zm | refine keep_far ?_ GW161.out _ | refine keep_far ?_ GW162.out _) | exact HK.out)⟩
      ·rw [if_neg c93] at H
       have c93b0 : decide ((x1000_1.size : Int) ≤ x5_1) = false := decide_eq_false c93
       clear c93
       by_cases c102 : 0 ≤ x5_1
       ·rw [if_pos c102] at H
        have c102b0 : decide (0 ≤ x5_1) = true := decide_eq_true c102
        clear c102
        by_cases c103 : x5_1 < (x1000_1.size : Int)
        ·rw [if_pos c103] at H
         have c103b0 : decide (x5_1 < (x1000_1.size : Int)) = true := decide_eq_true c103
         clear c103
         by_cases c105 : (bt x1000_1 x5_1) = 34
         ·rw [if_pos c105] at H
          have c105b0 : ((bt x1000_1 x5_1) == 34) = true := beq_iff_eq.mpr c105
          have c105b1 : ((bt x1000_1 x5_1) != 34) = false := bne_eq_false_iff_eq.mpr c105
          clear c105
          simp only [Option.some.injEq, Prod.mk.injEq] at H
          obtain ⟨rfl, rfl, rfl, rfl, rfl, rfl, rfl, rfl, rfl, rfl⟩ := H
          obtain ⟨HGz106, hgz106⟩ := HI0.out
          have hcz106_0 := cellS79_0 HGz106
          have hcz106_1 := cellS79_1 HGz106
          have hcz106_2 := cellS79_2 HGz106
          have hcz106_3 := cellS79_3 HGz106
          have hfz106_0 := yF HGz106 0
          have hfz106_1 := yF HGz106 1
          have hfz106_2 := yF HGz106 2
          have hfz106_3 := yF HGz106 3
          clear HGz106 hgz106
          have p104 : 0 ≤ (x5_1 : Int) := yQ (by first | (with_reducible assumption) | assumption)
          have q104 : x5_1 < (x1000_1.size : Int) := yQ (by first | (with_reducible assumption) | assumption)
          have hx104 := bt_at x1000_1 x5_1
          replace p104 := eq_true p104
          replace q104 := eq_true q104
          have hnb107 := NB162_161.out
          have hnc107 := NB161_162.out
          have hnb108 := NB162_0.out
          have hnc108 := NB0_162.out
          have hcz109_0 : wc.cell? ⟨gb162, 0, none⟩ = some (.int .i64 3) := (yC BK162.out 0).trans rfl
          have hcz109_1 : wc.cell? ⟨gb162, 1, none⟩ = some (.int .i64 s0_1) := (yC BK162.out 1).trans rfl
          have hcz109_2 : wc.cell? ⟨gb162, 2, none⟩ = some (.int .i64 0) := (yC BK162.out 2).trans rfl
          have hcz109_3 : wc.cell? ⟨gb162, 3, none⟩ = some (.string (⟨#[]⟩ : ByteArray)) := (yC BK162.out 3).trans rfl
          have hcz109_4 : wc.cell? ⟨gb162, 4, none⟩ = some (.slice none 0 0) := (yC BK162.out 4).trans rfl
          have hcz109_5 : wc.cell? ⟨gb162, 5, none⟩ = some (.slice none 0 0) := (yC BK162.out 5).trans rfl
          have hfz109_0 := yF BK162.out 0
          have hfz109_1 := yF BK162.out 1
          have hfz109_2 := yF BK162.out 2
          have hfz109_3 := yF BK162.out 3
          have hfz109_4 := yF BK162.out 4
          have hfz109_5 := yF BK162.out 5
          have hcv110 : (convert 49 9 u4).run Tryd.prog ((wc.setCell ⟨g, 1, none⟩ (.int .i64 (wrap64 (x5_1 + 1)))).setCell ⟨gb162, 2, none⟩ (.int .i64 (wrap64 (x5_1 + 1)))) = .ok (.string (strOfNums x4_1)) _ := own_string (P := Tryd.prog) Tryd.underlying49 Tryd.underlying5 Tryd.underlying9 (own_two_ (Kd.own_of_R HO_4.out) HI0.out.1 BK162.out 1 2 _ _)
          have hnb111 := NB161_0.out
          have hnc111 := NB0_161.out
          have hcz112_0 : wc.cell? ⟨gb161, 0, none⟩ = some (.int .i64 0) := (yC BK161.out 0).trans rfl
          have hcz112_1 : wc.cell? ⟨gb161, 1, none⟩ = some (.int .i64 0) := (yC BK161.out 1).trans rfl
          have hcz112_2 : wc.cell? ⟨gb161, 2, none⟩ = some (.int .i64 0) := (yC BK161.out 2).trans rfl
          have hcz112_3 : wc.cell? ⟨gb161, 3, none⟩ = some (.string (⟨#[]⟩ : ByteArray)) := (yC BK161.out 3).trans rfl
          have hcz112_4 : wc.cell? ⟨gb161, 4, none⟩ = some (.slice none 0 0) := (yC BK161.out 4).trans rfl
          have hcz112_5 : wc.cell? ⟨gb161, 5, none⟩ = some (.slice none 0 0) := (yC BK161.out 5).trans rfl
          have hfz112_0 := yF BK161.out 0
          have hfz112_1 := yF BK161.out 1
          have hfz112_2 := yF BK161.out 2
          have hfz112_3 := yF BK161.out 3
          have hfz112_4 := yF BK161.out 4
          have hfz112_5 := yF BK161.out 5
          go_wp2
          refine bodyPost_ret (results_cell_row rfl _ _ gb161 67 #[.int .i64 3, .int .i64 s0_1, .int .i64 (wrap64 (x5_1 + 1)), .string (strOfNums x4_1), .slice none 0 0, .slice none 0 0] (0, 0) _ rfl (by (with_reducible repeat (first | refine yN ?_ _ | refine yD ?_ | refine yA ?_ _)); refine blk_put (cs := #[.int .i64 3, .int .i64 s0_1, .int .i64 (wrap64 (x5_1 + 1)), .string (strOfNums x4_1), .slice none 0 0, .slice none 0 0]) ?_ 5 _ rfl; (with_reducible repeat (first | refine yN ?_ _ | refine yD ?_ | refine yA ?_ _)); refine blk_put (cs := #[.int .i64 3, .int .i64 s0_1, .int .i64 (wrap64 (x5_1 + 1)), .string (strOfNums x4_1), .slice none 0 0, .slice none 0 0]) ?_ 4 _ rfl; (with_reducible repeat (first | refine yN ?_ _ | refine yD ?_ | refine yA ?_ _)); refine blk_put (cs := #[.int .i64 3, .int .i64 s0_1, .int .i64 (wrap64 (x5_1 + 1)), .string (⟨#[]⟩ : ByteArray), .slice none 0 0, .slice none 0 0]) ?_ 3 _ rfl; (with_reducible repeat (first | refine yN ?_ _ | refine yD ?_ | refine yA ?_ _)); refine blk_put (cs := #[.int .i64 3, .int .i64 s0_1, .int .i64 0, .string (⟨#[]⟩ : ByteArray), .slice none 0 0, .slice none 0 0]) ?_ 2 _ rfl; (with_reducible repeat (first | refine yN ?_ _ | refine yD ?_ | refine yA ?_ _)); refine blk_put (cs := #[.int .i64 3, .int .i64 0, .int .i64 0, .string (⟨#[]⟩ : ByteArray), .slice none 0 0, .slice none 0 0]) ?_ 1 _ rfl; (with_reducible repeat (first | refine yN ?_ _ | refine yD ?_ | refine yA ?_ _)); refine blk_put (cs := #[.int .i64 0, .int .i64 0, .int .i64 0, .string (⟨#[]⟩ : ByteArray), .slice none 0 0, .slice none 0 0]) ?_ 0 _ rfl; (with_reducible repeat (first | refine yN ?_ _ | refine yD ?_ | refine yA ?_ _)); refine yR ?_ NB161_162.out _; (with_reducible repeat (first | refine yN ?_ _ | refine yD ?_ | refine yA ?_ _)); refine yR ?_ NB161_162.out _; (with_reducible repeat (first | refine yN ?_ _ | refine yD ?_ | refine yA ?_ _)); refine yR ?_ NB161_0.out _; (with_reducible repeat (first | refine yN ?_ _ | refine yD ?_ | refine yA ?_ _)); exact BK161.out) Tryd.underlying67 rfl (by kernel_rfl)) rfl ?_
          exact ⟨_, _, by first | rfl | (simp [errW_none, errW_some] <;> rfl) | (simp [*, errW_none, errW_some] <;> rfl), by first | exact Kd.R_nil _ _ _ _ _ | exact Kd.N_nil _ _ _ _ _ | exact Kd.V_nil _ _ _ _ _ | exact Kd.Q_nil _ _ _ _ _ | exact Kd.S_nil _ _ _ _ _, by first | exact Kd.R_nil _ _ _ _ _ | exact Kd.N_nil _ _ _ _ _ | exact Kd.V_nil _ _ _ _ _ | exact Kd.Q_nil _ _ _ _ _ | exact Kd.S_nil _ _ _ _ _, by repeat (first | (with_reducible first | exact HI0.out | apply wA | apply wN | apply wD | apply w_0 | apply w_1 | apply w_2 | apply w_3 | refine wR ?_ NB0_161.out _ | refine wR ?_ NB0_162.out _) | exact HI0.out), by repeat (first | (with_reducible first | exact HB.out | apply zA | apply zN | apply zD | refine zq9 ?_ (wG HI0.out) | refine zq9 ?_ GE161.out | refine zq9 ?_ GE162.out) | exact HB.out), by repeat (first | (with_reducible first | exact HK.out | apply yK | apply zk | apply zl9 | apply zm | refine keep_far ?_ GW161.out _ | refine keep_far ?_ GW162.out _) | exact HK.out)⟩
         ·rw [if_neg c105] at H
          have c105b0 : ((bt x1000_1 x5_1) == 34) = false := yB c105
          have c105b1 : ((bt x1000_1 x5_1) != 34) = true := bne_iff_ne.mpr c105
          replace H := yO H
          obtain ⟨⟨t167, t168, t169, t170⟩, A1130, H⟩ := H
          replace H : (some (3, s0_1, 0, (⟨#[]⟩ : ByteArray), ([] : List (S67)), ([] : List (S67)), t167, t168, t169, t170)) = some (r1, r2, r3, r4, r5, r6, r7, r8, r9, r10) := H
          have A113 := yM A1130
          clear A1130
          simp only [Option.some.injEq, Prod.mk.injEq] at H
          obtain ⟨rfl, rfl, rfl, rfl, rfl, rfl, rfl, rfl, rfl, rfl⟩ := H
          obtain ⟨HGz114, hgz114⟩ := HI0.out
          have hcz114_0 := cellS79_0 HGz114
          have hcz114_1 := cellS79_1 HGz114
          have hcz114_2 := cellS79_2 HGz114
          have hcz114_3 := cellS79_3 HGz114
          have hfz114_0 := yF HGz114 0
          have hfz114_1 := yF HGz114 1
          have hfz114_2 := yF HGz114 2
          have hfz114_3 := yF HGz114 3
          clear HGz114 hgz114
          have p104 : 0 ≤ (x5_1 : Int) := yQ (by first | (with_reducible assumption) | assumption)
          have q104 : x5_1 < (x1000_1.size : Int) := yQ (by first | (with_reducible assumption) | assumption)
          have hx104 := bt_at x1000_1 x5_1
          replace p104 := eq_true p104
          replace q104 := eq_true q104
          go_wp2_with (first | ((with_reducible refine gate_callee (f := 34) rfl ?_); refine goesL_ (some 91) rfl rfl Tryd.func34 (by kernel_rfl) rfl #[.pointer (some ⟨g, 0, none⟩), .int .i64 125, .int .i64 x1001_1] rfl (by (try simp only [List.map_toArray, List.map_cons, List.map_nil]); first | done | rfl | (simp only [List.length_drop, List.length_take]; rfl)) ?_; (with_reducible refine (T_fail.calls g x1000_1 x1001_1 x1002_1 x1003_1 125 x1001_1 t167 t168 t169 t170 w0 _ ?side1 ?side2 A113.out).mono ?_); (case side1 => repeat (first | (with_reducible first | exact HI0.out | apply wA | apply wN | apply wD | apply w_0 | apply w_1 | apply w_2 | apply w_3 | refine wR ?_ NB0_161.out _ | refine wR ?_ NB0_162.out _) | exact HI0.out)); (case side2 => repeat (first | (with_reducible first | exact HB.out | apply zA | apply zN | apply zD | refine zq9 ?_ (wG HI0.out) | refine zq9 ?_ GE161.out | refine zq9 ?_ GE162.out) | exact HB.out)); rintro e w115 ⟨rfl, hi, hb, hk⟩; refine ⟨_, rfl, ?_⟩; have n0_ := yM (Kd.R_mono (Kd.R_keep (IsS79.apart (show IsS79 w0 _ g x1000_1 x1001_1 x1002_1 x1003_1 from by repeat (first | (with_reducible first | exact HI0.out | apply wA | apply wN | apply wD | apply w_0 | apply w_1 | apply w_2 | apply w_3 | refine wR ?_ NB0_161.out _ | refine wR ?_ NB0_162.out _) | exact HI0.out)) (by (with_reducible repeat (first | apply Kd.R_alloc | apply Kd.R_drewN | apply Kd.R_drew)); exact HO_4.out) (by decide)) hk (fun _ h => h.2)) (fun _ h => h.1)); have n1_ := yM (KeepBut.blk hk (g' := gb161) (o := .cells #[.int .i64 0, .int .i64 0, .int .i64 0, .string (⟨#[]⟩ : ByteArray), .slice none 0 0, .slice none 0 0] 67 (0, 0)) (by (with_reducible repeat (first | refine yN ?_ _ | refine yD ?_ | refine yA ?_ _)); exact BK161.out) NB161_0.out (by simp)); have n2_ := yM (KeepBut.blk hk (g' := gb162) (o := .cells #[.int .i64 3, .int .i64 s0_1, .int .i64 0, .string (⟨#[]⟩ : ByteArray), .slice none 0 0, .slice none 0 0] 67 (0, 0)) (by (with_reducible repeat (first | refine yN ?_ _ | refine yD ?_ | refine yA ?_ _)); exact BK162.out) NB162_0.out (by simp)); have n3_ := yM (KeepBut.trans (by repeat (first | (with_reducible first | exact HK.out | apply yK | apply zk | apply zl9 | apply zm | refine keep_far ?_ GW161.out _ | refine keep_far ?_ GW162.out _) | exact HK.out)) hk (.inl rfl)); have n4_ := yM (hb); have n5_ := yM (hi); clear HO_4; clear BK161; clear BK162; clear HK; clear HB; clear HI0; have HO_4 := n0_; have BK161 := n1_; have BK162 := n2_; have HK := n3_; have HB := n4_; have HI0 := n5_; clear n0_ n1_ n2_ n3_ n4_ n5_; (try clear hb); (try clear hb2); (try clear hk); (try clear hi); have hnb116 := NB162_161.out; have hnc116 := NB161_162.out; have hnb117 := NB162_0.out; have hnc117 := NB0_162.out; have hcz118_0 : w115.cell? ⟨gb162, 0, none⟩ = some (.int .i64 3) := (yC BK162.out 0).trans rfl; have hcz118_1 : w115.cell? ⟨gb162, 1, none⟩ = some (.int .i64 s0_1) := (yC BK162.out 1).trans rfl; have hcz118_2 : w115.cell? ⟨gb162, 2, none⟩ = some (.int .i64 0) := (yC BK162.out 2).trans rfl; have hcz118_3 : w115.cell? ⟨gb162, 3, none⟩ = some (.string (⟨#[]⟩ : ByteArray)) := (yC BK162.out 3).trans rfl; have hcz118_4 : w115.cell? ⟨gb162, 4, none⟩ = some (.slice none 0 0) := (yC BK162.out 4).trans rfl; have hcz118_5 : w115.cell? ⟨gb162, 5, none⟩ = some (.slice none 0 0) := (yC BK162.out 5).trans rfl; have hfz118_0 := yF BK162.out 0; have hfz118_1 := yF BK162.out 1; have hfz118_2 := yF BK162.out 2; have hfz118_3 := yF BK162.out 3; have hfz118_4 := yF BK162.out 4; have hfz118_5 := yF BK162.out 5; have hnb119 := NB161_0.out; have hnc119 := NB0_161.out; have hcz120_0 : w115.cell? ⟨gb161, 0, none⟩ = some (.int .i64 0) := (yC BK161.out 0).trans rfl; have hcz120_1 : w115.cell? ⟨gb161, 1, none⟩ = some (.int .i64 0) := (yC BK161.out 1).trans rfl; have hcz120_2 : w115.cell? ⟨gb161, 2, none⟩ = some (.int .i64 0) := (yC BK161.out 2).trans rfl; have hcz120_3 : w115.cell? ⟨gb161, 3, none⟩ = some (.string (⟨#[]⟩ : ByteArray)) := (yC BK161.out 3).trans rfl; have hcz120_4 : w115.cell? ⟨gb161, 4, none⟩ = some (.slice none 0 0) := (yC BK161.out 4).trans rfl; have hcz120_5 : w115.cell? ⟨gb161, 5, none⟩ = some (.slice none 0 0) := (yC BK161.out 5).trans rfl; have hfz120_0 := yF BK161.out 0; have hfz120_1 := yF BK161.out 1; have hfz120_2 := yF BK161.out 2; have hfz120_3 := yF BK161.out 3; have hfz120_4 := yF BK161.out 4; have hfz120_5 := yF BK161.out 5))
          refine bodyPost_ret (results_cell_row rfl _ _ gb161 67 #[.int .i64 3, .int .i64 s0_1, .int .i64 0, .string (⟨#[]⟩ : ByteArray), .slice none 0 0, .slice none 0 0] (0, 0) _ rfl (by (with_reducible repeat (first | refine yN ?_ _ | refine yD ?_ | refine yA ?_ _)); refine blk_put (cs := #[.int .i64 3, .int .i64 s0_1, .int .i64 0, .string (⟨#[]⟩ : ByteArray), .slice none 0 0, .slice none 0 0]) ?_ 5 _ rfl; (with_reducible repeat (first | refine yN ?_ _ | refine yD ?_ | refine yA ?_ _)); refine blk_put (cs := #[.int .i64 3, .int .i64 s0_1, .int .i64 0, .string (⟨#[]⟩ : ByteArray), .slice none 0 0, .slice none 0 0]) ?_ 4 _ rfl; (with_reducible repeat (first | refine yN ?_ _ | refine yD ?_ | refine yA ?_ _)); refine blk_put (cs := #[.int .i64 3, .int .i64 s0_1, .int .i64 0, .string (⟨#[]⟩ : ByteArray), .slice none 0 0, .slice none 0 0]) ?_ 3 _ rfl; (with_reducible repeat (first | refine yN ?_ _ | refine yD ?_ | refine yA ?_ _)); refine blk_put (cs := #[.int .i64 3, .int .i64 s0_1, .int .i64 0, .string (⟨#[]⟩ : ByteArray), .slice none 0 0, .slice none 0 0]) ?_ 2 _ rfl; (with_reducible repeat (first | refine yN ?_ _ | refine yD ?_ | refine yA ?_ _)); refine blk_put (cs := #[.int .i64 3, .int .i64 0, .int .i64 0, .string (⟨#[]⟩ : ByteArray), .slice none 0 0, .slice none 0 0]) ?_ 1 _ rfl; (with_reducible repeat (first | refine yN ?_ _ | refine yD ?_ | refine yA ?_ _)); refine blk_put (cs := #[.int .i64 0, .int .i64 0, .int .i64 0, .string (⟨#[]⟩ : ByteArray), .slice none 0 0, .slice none 0 0]) ?_ 0 _ rfl; (with_reducible repeat (first | refine yN ?_ _ | refine yD ?_ | refine yA ?_ _)); exact BK161.out) Tryd.underlying67 rfl (by kernel_rfl)) rfl ?_
          exact ⟨_, _, by first | rfl | (simp [errW_none, errW_some] <;> rfl) | (simp [*, errW_none, errW_some] <;> rfl), by first | exact Kd.R_nil _ _ _ _ _ | exact Kd.N_nil _ _ _ _ _ | exact Kd.V_nil _ _ _ _ _ | exact Kd.Q_nil _ _ _ _ _ | exact Kd.S_nil _ _ _ _ _, by first | exact Kd.R_nil _ _ _ _ _ | exact Kd.N_nil _ _ _ _ _ | exact Kd.V_nil _ _ _ _ _ | exact Kd.Q_nil _ _ _ _ _ | exact Kd.S_nil _ _ _ _ _, by repeat (first | (with_reducible first | exact HI0.out | apply wA | apply wN | apply wD | apply w_0 | apply w_1 | apply w_2 | apply w_3 | refine wR ?_ NB0_161.out _ | refine wR ?_ NB0_162.out _) | exact HI0.out), by repeat (first | (with_reducible first | exact HB.out | apply zA | apply zN | apply zD | refine zq9 ?_ (wG HI0.out) | refine zq9 ?_ GE161.out | refine zq9 ?_ GE162.out) | exact HB.out), by repeat (first | (with_reducible first | exact HK.out | apply yK | apply zk | apply zl9 | apply zm | refine keep_far ?_ GW161.out _ | refine keep_far ?_ GW162.out _) | exact HK.out)⟩
        ·rw [if_neg c103] at H
         exact absurd H (by simp)
       ·rw [if_neg c102] at H
        exact absurd H (by simp)
def T_name.f (k : Nat) (s0_0 : ByteArray) (s0_1 : Int) (s0_2 : Int) (s0_3 : Int) : Option (Int × Int × Int × ByteArray × (List (S67)) × (List (S67)) × ByteArray × Int × Int × Int) := if s0_2 = 0 then ((T_text.f k s0_0 s0_1 s0_2 s0_3).bind fun bt199 => (if bt199.2.2.2.2.2.2.2.2.1 = 0 then ((T_sign.f k bt199.2.2.2.2.2.2.1 bt199.2.2.2.2.2.2.2.1 bt199.2.2.2.2.2.2.2.2.1 bt199.2.2.2.2.2.2.2.2.2 58).bind fun bt214 => (some (bt199.1, bt199.2.1, bt199.2.2.1, bt199.2.2.2.1, bt199.2.2.2.2.1, bt199.2.2.2.2.2.1, bt214.1, bt214.2.1, bt214.2.2.1, bt214.2.2.2))) else (some (bt199.1, bt199.2.1, bt199.2.2.1, bt199.2.2.2.1, bt199.2.2.2.2.1, bt199.2.2.2.2.2.1, bt199.2.2.2.2.2.2.1, bt199.2.2.2.2.2.2.2.1, bt199.2.2.2.2.2.2.2.2.1, bt199.2.2.2.2.2.2.2.2.2)))) else (some (0, 0, 0, (⟨#[]⟩ : ByteArray), ([] : List (S67)), ([] : List (S67)), s0_0, s0_1, s0_2, s0_3))
set_option maxHeartbeats 8000000 in
set_option maxRecDepth 100000 in
theorem T_name.calls (k : Nat) (g : Nat) (s0_0 : ByteArray) (s0_1 : Int) (s0_2 : Int) (s0_3 : Int) (r1 : Int) (r2 : Int) (r3 : Int) (r4 : ByteArray) (r5 : List (S67)) (r6 : List (S67)) (r7 : ByteArray) (r8 : Int) (r9 : Int) (r10 : Int) (w0 w : World) (hI : IsS79 w0 w g s0_0 s0_1 s0_2 s0_3) (hB : Below w0.heap.size w0 w) (h : T_name.f k s0_0 s0_1 s0_2 s0_3 = some (r1, r2, r3, r4, r5, r6, r7, r8, r9, r10)) :
  Calls Tryd.prog 63 #[.pointer (some ⟨g, 0, none⟩)] w fun e w' => ∃ v4_ v5_ : Value, e = .returned (.agg #[.int .i64 r1, .int .i64 r2, .int .i64 r3, .string r4, v4_, v5_]) ∧ Kd.R k67 67 w' w.heap.size (fun k_ => some k_ ≠ (v5_ : Value).ownBlock) v4_ r5 ∧ Kd.R k67 67 w' w.heap.size (fun k_ => some k_ ≠ (v4_ : Value).ownBlock) v5_ r6 ∧ IsS79 w0 w' g r7 r8 r9 r10 ∧ Below w0.heap.size w0 w' ∧ KeepBut w w' g none := by
 have hu67 := Tryd.underlying67
 have HI0 := yM hI
 have HK := yM (KeepBut.refl w g none)
 have HL := yM hB.size
 clear hI
 have HW0 := yM hB.size
 have HB := yM hB
 clear hB
 have H : (if s0_2 = 0 then ((T_text.f k s0_0 s0_1 s0_2 s0_3).bind fun bt199 => (if bt199.2.2.2.2.2.2.2.2.1 = 0 then ((T_sign.f k bt199.2.2.2.2.2.2.1 bt199.2.2.2.2.2.2.2.1 bt199.2.2.2.2.2.2.2.2.1 bt199.2.2.2.2.2.2.2.2.2 58).bind fun bt214 => (some (bt199.1, bt199.2.1, bt199.2.2.1, bt199.2.2.2.1, bt199.2.2.2.2.1, bt199.2.2.2.2.2.1, bt214.1, bt214.2.1, bt214.2.2.1, bt214.2.2.2))) else (some (bt199.1, bt199.2.1, bt199.2.2.1, bt199.2.2.2.1, bt199.2.2.2.2.1, bt199.2.2.2.2.2.1, bt199.2.2.2.2.2.2.1, bt199.2.2.2.2.2.2.2.1, bt199.2.2.2.2.2.2.2.2.1, bt199.2.2.2.2.2.2.2.2.2)))) else (some (0, 0, 0, (⟨#[]⟩ : ByteArray), ([] : List (S67)), ([] : List (S67)), s0_0, s0_1, s0_2, s0_3))) = some (r1, r2, r3, r4, r5, r6, r7, r8, r9, r10) := h
 clear h
 by_cases c2 : s0_2 = 0
 ·rw [if_pos c2] at H
  have c2b0 : (s0_2 == 0) = true := beq_iff_eq.mpr c2
  have c2b1 : (s0_2 != 0) = false := bne_eq_false_iff_eq.mpr c2
  clear c2
  replace H := yO H
  obtain ⟨⟨t199, t200, t201, t202, t203, t206, t209, t210, t211, t212⟩, A30, H⟩ := H
  replace H : (if t211 = 0 then ((T_sign.f k t209 t210 t211 t212 58).bind fun bt214 => (some (t199, t200, t201, t202, t203, t206, bt214.1, bt214.2.1, bt214.2.2.1, bt214.2.2.2))) else (some (t199, t200, t201, t202, t203, t206, t209, t210, t211, t212))) = some (r1, r2, r3, r4, r5, r6, r7, r8, r9, r10) := H
  have A3 := yM A30
  clear A30
  by_cases c4 : t211 = 0
  ·rw [if_pos c4] at H
   have c4b0 : (t211 == 0) = true := beq_iff_eq.mpr c4
   have c4b1 : (t211 != 0) = false := bne_eq_false_iff_eq.mpr c4
   clear c4
   replace H := yO H
   obtain ⟨⟨t214, t215, t216, t217⟩, A50, H⟩ := H
   replace H : (some (t199, t200, t201, t202, t203, t206, t214, t215, t216, t217)) = some (r1, r2, r3, r4, r5, r6, r7, r8, r9, r10) := H
   have A5 := yM A50
   clear A50
   simp only [Option.some.injEq, Prod.mk.injEq] at H
   obtain ⟨rfl, rfl, rfl, rfl, rfl, rfl, rfl, rfl, rfl, rfl⟩ := H
   go_enter Tryd.func63, Tryd.ntmps63
   go_wp2_with (first | ((with_reducible refine gate_dst (N := 2) rfl ?_); refine box_event ?hg (N := 2) ?hd (cs := #[.int .i64 0, .int .i64 0, .int .i64 0, .string (⟨#[]⟩ : ByteArray), .slice none 0 0, .slice none 0 0]) (t := 67) ?hr ?_; (case hd => rfl); (case hg => rfl); (case hr => first | (go_simp; done) | (go_simp; rfl)); intro gb198 hg w6 hbox hb; have n0_ := yM (IsS79.below (by repeat (first | (with_reducible first | exact HI0.out | apply wA | apply wN | apply wD | apply w_0 | apply w_1 | apply w_2 | apply w_3) | exact HI0.out)) hb); have n1_ := yM (KeepBut.trans (by repeat (first | (with_reducible first | exact HK.out | apply yK | apply zk | apply zl9 | apply zm) | exact HK.out)) (KeepBut.of_below hb g none) (.inl rfl)); have n2_ := yM (below_step (by repeat (first | (with_reducible first | exact HB.out | apply zA | apply zN | apply zD | refine zq9 ?_ (wG HI0.out)) | exact HB.out)) hb); have n3_ := yM (hbox); have n4_ := yM ((by rw [hg]; exact (keep_size (w := w) (g := g) (row := none) (by repeat (first | (with_reducible first | exact HK.out | apply yK | apply zk | apply zl9 | apply zm) | exact HK.out))) : w.heap.size ≤ gb198)); have n5_ := yM ((Nat.le_trans HW0.out (by rw [hg]; exact (keep_size (w := w) (g := g) (row := none) (by repeat (first | (with_reducible first | exact HK.out | apply yK | apply zk | apply zl9 | apply zm) | exact HK.out))) : w.heap.size ≤ gb198) : w0.heap.size ≤ gb198)); have n6_ := yM ((by rw [hg]; exact Nat.ne_of_lt (IsS79.lt (show IsS79 w0 _ g s0_0 s0_1 s0_2 s0_3 from by repeat (first | (with_reducible first | exact HI0.out | apply wA | apply wN | apply wD | apply w_0 | apply w_1 | apply w_2 | apply w_3) | exact HI0.out))) : g ≠ gb198)); have n7_ := yM ((by rw [hg]; exact Nat.ne_of_gt (IsS79.lt (show IsS79 w0 _ g s0_0 s0_1 s0_2 s0_3 from by repeat (first | (with_reducible first | exact HI0.out | apply wA | apply wN | apply wD | apply w_0 | apply w_1 | apply w_2 | apply w_3) | exact HI0.out))) : gb198 ≠ g)); clear HI0; clear HK; clear HB; have HI0 := n0_; have HK := n1_; have HB := n2_; have BK198 := n3_; have GW198 := n4_; have GE198 := n5_; have NB0_198 := n6_; have NB198_0 := n7_; clear n0_ n1_ n2_ n3_ n4_ n5_ n6_ n7_; clear hb hbox hg; obtain ⟨HGz7, hgz7⟩ := HI0.out; have hcz7_0 := cellS79_0 HGz7; have hcz7_1 := cellS79_1 HGz7; have hcz7_2 := cellS79_2 HGz7; have hcz7_3 := cellS79_3 HGz7; have hfz7_0 := yF HGz7 0; have hfz7_1 := yF HGz7 1; have hfz7_2 := yF HGz7 2; have hfz7_3 := yF HGz7 3; clear HGz7 hgz7) | ((with_reducible refine gate_callee (f := 45) rfl ?_); refine goesL_ (some 11) rfl rfl Tryd.func45 (by kernel_rfl) rfl #[.pointer (some ⟨g, 0, none⟩)] rfl (by (try simp only [List.map_toArray, List.map_cons, List.map_nil]); first | done | rfl | (simp only [List.length_drop, List.length_take]; rfl)) ?_; (with_reducible refine (T_text.calls k g s0_0 s0_1 s0_2 s0_3 t199 t200 t201 t202 t203 t206 t209 t210 t211 t212 w0 _ ?side1 ?side2 A3.out).mono ?_); (case side1 => repeat (first | (with_reducible first | exact HI0.out | apply wA | apply wN | apply wD | apply w_0 | apply w_1 | apply w_2 | apply w_3 | refine wR ?_ NB0_198.out _) | exact HI0.out)); (case side2 => repeat (first | (with_reducible first | exact HB.out | apply zA | apply zN | apply zD | refine zq9 ?_ (wG HI0.out) | refine zq9 ?_ GE198.out) | exact HB.out)); rintro e w8 ⟨v204, v207, rfl, ho0, ho1, hi, hb, hk⟩; refine ⟨_, rfl, ?_⟩; have n0_ := yM (KeepBut.blk hk (g' := gb198) (o := .cells #[.int .i64 0, .int .i64 0, .int .i64 0, .string (⟨#[]⟩ : ByteArray), .slice none 0 0, .slice none 0 0] 67 (0, 0)) (by (with_reducible repeat (first | refine yN ?_ _ | refine yD ?_ | refine yA ?_ _)); exact BK198.out) NB198_0.out (by simp)); have n1_ := yM (Kd.R_lower (Kd.R_newB ho0 (g := gb198) (o := .cells #[.int .i64 0, .int .i64 0, .int .i64 0, .string (⟨#[]⟩ : ByteArray), .slice none 0 0, .slice none 0 0] 67 (0, 0)) (by (with_reducible repeat (first | refine yN ?_ _ | refine yD ?_ | refine yA ?_ _)); exact BK198.out)) (keep_size (w := w) (g := g) (row := none) (by repeat (first | (with_reducible first | exact HK.out | apply yK | apply zk | apply zl9 | apply zm | refine keep_far ?_ GW198.out _) | exact HK.out)))); have n2_ := yM (Kd.R_lower (Kd.R_newB ho1 (g := gb198) (o := .cells #[.int .i64 0, .int .i64 0, .int .i64 0, .string (⟨#[]⟩ : ByteArray), .slice none 0 0, .slice none 0 0] 67 (0, 0)) (by (with_reducible repeat (first | refine yN ?_ _ | refine yD ?_ | refine yA ?_ _)); exact BK198.out)) (keep_size (w := w) (g := g) (row := none) (by repeat (first | (with_reducible first | exact HK.out | apply yK | apply zk | apply zl9 | apply zm | refine keep_far ?_ GW198.out _) | exact HK.out)))); have n3_ := yM (KeepBut.trans (by repeat (first | (with_reducible first | exact HK.out | apply yK | apply zk | apply zl9 | apply zm | refine keep_far ?_ GW198.out _) | exact HK.out)) hk (.inl rfl)); have n4_ := yM (hb); have n5_ := yM (hi); clear BK198; clear HK; clear HB; clear HI0; have BK198 := n0_; have HO205 := n1_; have HO208 := n2_; have HK := n3_; have HB := n4_; have HI0 := n5_; clear n0_ n1_ n2_ n3_ n4_ n5_; (try clear hb); (try clear hb2); (try clear hk); (try clear hi); (try clear ho0); (try clear ho1)) | ((with_reducible refine gate_dst (N := 3) rfl ?_); refine box_event ?hg (N := 3) ?hd (cs := #[.int .i64 0, .int .i64 0, .int .i64 0, .string (⟨#[]⟩ : ByteArray), .slice none 0 0, .slice none 0 0]) (t := 67) ?hr ?_; (case hd => rfl); (case hg => rfl); (case hr => first | (go_simp; done) | (go_simp; rfl)); intro gb213 hg w9 hbox hb; have n0_ := yM (Kd.R_below (Kd.R_elderB (by (with_reducible repeat (first | apply Kd.R_alloc | apply Kd.R_drewN | apply Kd.R_drew)); exact HO205.out) gb213 (Nat.le_of_eq hg.symm)) hb); have n1_ := yM (Kd.R_below (Kd.R_elderB (by (with_reducible repeat (first | apply Kd.R_alloc | apply Kd.R_drewN | apply Kd.R_drew)); exact HO208.out) gb213 (Nat.le_of_eq hg.symm)) hb); have n2_ := yM (IsS79.below (by repeat (first | (with_reducible first | exact HI0.out | apply wA | apply wN | apply wD | apply w_0 | apply w_1 | apply w_2 | apply w_3 | refine wR ?_ NB0_198.out _) | exact HI0.out)) hb); have n3_ := yM (blk_below (g := gb198) (o := .cells #[.int .i64 0, .int .i64 0, .int .i64 0, .string (⟨#[]⟩ : ByteArray), .slice none 0 0, .slice none 0 0] 67 (0, 0)) (by (with_reducible repeat (first | refine yN ?_ _ | refine yD ?_ | refine yA ?_ _)); exact BK198.out) hb); have n4_ := yM (KeepBut.trans (by repeat (first | (with_reducible first | exact HK.out | apply yK | apply zk | apply zl9 | apply zm | refine keep_far ?_ GW198.out _) | exact HK.out)) (KeepBut.of_below hb g none) (.inl rfl)); have n5_ := yM (below_step (by repeat (first | (with_reducible first | exact HB.out | apply zA | apply zN | apply zD | refine zq9 ?_ (wG HI0.out) | refine zq9 ?_ GE198.out) | exact HB.out)) hb); have n6_ := yM (hbox); have n7_ := yM ((by rw [hg]; exact (keep_size (w := w) (g := g) (row := none) (by repeat (first | (with_reducible first | exact HK.out | apply yK | apply zk | apply zl9 | apply zm | refine keep_far ?_ GW198.out _) | exact HK.out))) : w.heap.size ≤ gb213)); have n8_ := yM ((Nat.le_trans HW0.out (by rw [hg]; exact (keep_size (w := w) (g := g) (row := none) (by repeat (first | (with_reducible first | exact HK.out | apply yK | apply zk | apply zl9 | apply zm | refine keep_far ?_ GW198.out _) | exact HK.out))) : w.heap.size ≤ gb213) : w0.heap.size ≤ gb213)); have n9_ := yM ((by rw [hg]; exact Nat.ne_of_lt (blk_lt (g := gb198) (o := .cells #[.int .i64 0, .int .i64 0, .int .i64 0, .string (⟨#[]⟩ : ByteArray), .slice none 0 0, .slice none 0 0] 67 (0, 0)) (by (with_reducible repeat (first | refine yN ?_ _ | refine yD ?_ | refine yA ?_ _)); exact BK198.out)) : gb198 ≠ gb213)); have n10_ := yM ((by rw [hg]; exact Nat.ne_of_gt (blk_lt (g := gb198) (o := .cells #[.int .i64 0, .int .i64 0, .int .i64 0, .string (⟨#[]⟩ : ByteArray), .slice none 0 0, .slice none 0 0] 67 (0, 0)) (by (with_reducible repeat (first | refine yN ?_ _ | refine yD ?_ | refine yA ?_ _)); exact BK198.out)) : gb213 ≠ gb198)); have n11_ := yM ((by rw [hg]; exact Nat.ne_of_lt (IsS79.lt (show IsS79 w0 _ g t209 t210 t211 t212 from by repeat (first | (with_reducible first | exact HI0.out | apply wA | apply wN | apply wD | apply w_0 | apply w_1 | apply w_2 | apply w_3 | refine wR ?_ NB0_198.out _) | exact HI0.out))) : g ≠ gb213)); have n12_ := yM ((by rw [hg]; exact Nat.ne_of_gt (IsS79.lt (show IsS79 w0 _ g t209 t210 t211 t212 from by repeat (first | (with_reducible first | exact HI0.out | apply wA | apply wN | apply wD | apply w_0 | apply w_1 | apply w_2 | apply w_3 | refine wR ?_ NB0_198.out _) | exact HI0.out))) : gb213 ≠ g)); clear HO205; clear HO208; clear HI0; clear BK198; clear HK; clear HB; have HO205 := n0_; have HO208 := n1_; have HI0 := n2_; have BK198 := n3_; have HK := n4_; have HB := n5_; have BK213 := n6_; have GW213 := n7_; have GE213 := n8_; have NB198_213 := n9_; have NB213_198 := n10_; have NB0_213 := n11_; have NB213_0 := n12_; clear n0_ n1_ n2_ n3_ n4_ n5_ n6_ n7_ n8_ n9_ n10_ n11_ n12_; clear hb hbox hg; have hnb10 := NB213_198.out; have hnc10 := NB198_213.out; have hnb11 := NB213_0.out; have hnc11 := NB0_213.out; have hcz12_0 : w9.cell? ⟨gb213, 0, none⟩ = some (.int .i64 0) := (yC BK213.out 0).trans rfl; have hcz12_1 : w9.cell? ⟨gb213, 1, none⟩ = some (.int .i64 0) := (yC BK213.out 1).trans rfl; have hcz12_2 : w9.cell? ⟨gb213, 2, none⟩ = some (.int .i64 0) := (yC BK213.out 2).trans rfl; have hcz12_3 : w9.cell? ⟨gb213, 3, none⟩ = some (.string (⟨#[]⟩ : ByteArray)) := (yC BK213.out 3).trans rfl; have hcz12_4 : w9.cell? ⟨gb213, 4, none⟩ = some (.slice none 0 0) := (yC BK213.out 4).trans rfl; have hcz12_5 : w9.cell? ⟨gb213, 5, none⟩ = some (.slice none 0 0) := (yC BK213.out 5).trans rfl; have hfz12_0 := yF BK213.out 0; have hfz12_1 := yF BK213.out 1; have hfz12_2 := yF BK213.out 2; have hfz12_3 := yF BK213.out 3; have hfz12_4 := yF BK213.out 4; have hfz12_5 := yF BK213.out 5; obtain ⟨Ao13, co13, eo13⟩ := Kd.R_slice HO205.out; subst eo13; obtain ⟨Ao14, co14, eo14⟩ := Kd.R_slice HO208.out; subst eo14; obtain ⟨HGz15, hgz15⟩ := HI0.out; have hcz15_0 := cellS79_0 HGz15; have hcz15_1 := cellS79_1 HGz15; have hcz15_2 := cellS79_2 HGz15; have hcz15_3 := cellS79_3 HGz15; have hfz15_0 := yF HGz15 0; have hfz15_1 := yF HGz15 1; have hfz15_2 := yF HGz15 2; have hfz15_3 := yF HGz15 3; clear HGz15 hgz15) | ((with_reducible refine gate_callee (f := 62) rfl ?_); refine goesL_ (some 18) rfl rfl Tryd.func62 (by kernel_rfl) rfl #[.pointer (some ⟨g, 0, none⟩), .int .u8 58] rfl (by (try simp only [List.map_toArray, List.map_cons, List.map_nil]); first | done | rfl | (simp only [List.length_drop, List.length_take]; rfl)) ?_; (with_reducible refine (T_sign.calls k g t209 t210 t211 t212 58 t214 t215 t216 t217 w0 _ ?side1 ?side2 A5.out).mono ?_); (case side1 => repeat (first | (with_reducible first | exact HI0.out | apply wA | apply wN | apply wD | apply w_0 | apply w_1 | apply w_2 | apply w_3 | refine wR ?_ NB0_198.out _ | refine wR ?_ NB0_213.out _) | exact HI0.out)); (case side2 => repeat (first | (with_reducible first | exact HB.out | apply zA | apply zN | apply zD | refine zq9 ?_ (wG HI0.out) | refine zq9 ?_ GE198.out | refine zq9 ?_ GE213.out) | exact HB.out)); rintro e w16 ⟨rfl, hi, hb, hk⟩; refine ⟨_, rfl, ?_⟩; have n0_ := yM (KeepBut.blk hk (g' := gb198) (o := .cells #[.int .i64 0, .int .i64 0, .int .i64 0, .string (⟨#[]⟩ : ByteArray), .slice none 0 0, .slice none 0 0] 67 (0, 0)) (by (with_reducible repeat (first | refine yN ?_ _ | refine yD ?_ | refine yA ?_ _)); refine yR ?_ NB198_213.out _; (with_reducible repeat (first | refine yN ?_ _ | refine yD ?_ | refine yA ?_ _)); refine yR ?_ NB198_213.out _; (with_reducible repeat (first | refine yN ?_ _ | refine yD ?_ | refine yA ?_ _)); refine yR ?_ NB198_213.out _; (with_reducible repeat (first | refine yN ?_ _ | refine yD ?_ | refine yA ?_ _)); refine yR ?_ NB198_213.out _; (with_reducible repeat (first | refine yN ?_ _ | refine yD ?_ | refine yA ?_ _)); refine yR ?_ NB198_213.out _; (with_reducible repeat (first | refine yN ?_ _ | refine yD ?_ | refine yA ?_ _)); refine yR ?_ NB198_213.out _; (with_reducible repeat (first | refine yN ?_ _ | refine yD ?_ | refine yA ?_ _)); exact BK198.out) NB198_0.out (by simp)); have n1_ := yM (Kd.R_mono (Kd.R_keep (IsS79.apart (show IsS79 w0 _ g t209 t210 t211 t212 from by repeat (first | (with_reducible first | exact HI0.out | apply wA | apply wN | apply wD | apply w_0 | apply w_1 | apply w_2 | apply w_3 | refine wR ?_ NB0_198.out _ | refine wR ?_ NB0_213.out _) | exact HI0.out)) (by (with_reducible repeat (first | apply Kd.R_alloc | apply Kd.R_drewN | apply Kd.R_drew)); exact (Kd.R_mono (Kd.R_far (p := ⟨gb213, 5, none⟩) (Kd.R_far (p := ⟨gb213, 4, none⟩) (Kd.R_far (p := ⟨gb213, 3, none⟩) (Kd.R_far (p := ⟨gb213, 2, none⟩) (Kd.R_far (p := ⟨gb213, 1, none⟩) (Kd.R_far (p := ⟨gb213, 0, none⟩) (Kd.R_mono HO205.out (fun k_ hk => (⟨hk, hk.2⟩ : _ ∧ k_ ≠ gb213))) (fun _ hk => hk.2) (.int .i64 t199)) (fun _ hk => hk.2) (.int .i64 t200)) (fun _ hk => hk.2) (.int .i64 t201)) (fun _ hk => hk.2) (.string t202)) (fun _ hk => hk.2) (.slice Ao13 t203.length co13)) (fun _ hk => hk.2) (.slice Ao14 t206.length co14)) (fun _ h_ => h_.1))) (by decide)) hk (fun _ h => h.2)) (fun _ h => h.1)); have n2_ := yM (Kd.R_mono (Kd.R_keep (IsS79.apart (show IsS79 w0 _ g t209 t210 t211 t212 from by repeat (first | (with_reducible first | exact HI0.out | apply wA | apply wN | apply wD | apply w_0 | apply w_1 | apply w_2 | apply w_3 | refine wR ?_ NB0_198.out _ | refine wR ?_ NB0_213.out _) | exact HI0.out)) (by (with_reducible repeat (first | apply Kd.R_alloc | apply Kd.R_drewN | apply Kd.R_drew)); exact (Kd.R_mono (Kd.R_far (p := ⟨gb213, 5, none⟩) (Kd.R_far (p := ⟨gb213, 4, none⟩) (Kd.R_far (p := ⟨gb213, 3, none⟩) (Kd.R_far (p := ⟨gb213, 2, none⟩) (Kd.R_far (p := ⟨gb213, 1, none⟩) (Kd.R_far (p := ⟨gb213, 0, none⟩) (Kd.R_mono HO208.out (fun k_ hk => (⟨hk, hk.2⟩ : _ ∧ k_ ≠ gb213))) (fun _ hk => hk.2) (.int .i64 t199)) (fun _ hk => hk.2) (.int .i64 t200)) (fun _ hk => hk.2) (.int .i64 t201)) (fun _ hk => hk.2) (.string t202)) (fun _ hk => hk.2) (.slice Ao13 t203.length co13)) (fun _ hk => hk.2) (.slice Ao14 t206.length co14)) (fun _ h_ => h_.1))) (by decide)) hk (fun _ h => h.2)) (fun _ h => h.1)); have n3_ := yM (KeepBut.blk hk (g' := gb213) (o := .cells #[.int .i64 t199, .int .i64 t200, .int .i64 t201, .string t202, .slice Ao13 t203.length co13, .slice Ao14 t206.length co14] 67 (0, 0)) (by (with_reducible repeat (first | refine yN ?_ _ | refine yD ?_ | refine yA ?_ _)); refine blk_put (cs := #[.int .i64 t199, .int .i64 t200, .int .i64 t201, .string t202, .slice Ao13 t203.length co13, .slice none 0 0]) ?_ 5 _ rfl; (with_reducible repeat (first | refine yN ?_ _ | refine yD ?_ | refine yA ?_ _)); refine blk_put (cs := #[.int .i64 t199, .int .i64 t200, .int .i64 t201, .string t202, .slice none 0 0, .slice none 0 0]) ?_ 4 _ rfl; (with_reducible repeat (first | refine yN ?_ _ | refine yD ?_ | refine yA ?_ _)); refine blk_put (cs := #[.int .i64 t199, .int .i64 t200, .int .i64 t201, .string (⟨#[]⟩ : ByteArray), .slice none 0 0, .slice none 0 0]) ?_ 3 _ rfl; (with_reducible repeat (first | refine yN ?_ _ | refine yD ?_ | refine yA ?_ _)); refine blk_put (cs := #[.int .i64 t199, .int .i64 t200, .int .i64 0, .string (⟨#[]⟩ : ByteArray), .slice none 0 0, .slice none 0 0]) ?_ 2 _ rfl; (with_reducible repeat (first | refine yN ?_ _ | refine yD ?_ | refine yA ?_ _)); refine blk_put (cs := #[.int .i64 t199, .int .i64 0, .int .i64 0, .string (⟨#[]⟩ : ByteArray), .slice none 0 0, .slice none 0 0]) ?_ 1 _ rfl; (with_reducible repeat (first | refine yN ?_ _ | refine yD ?_ | refine yA ?_ _)); refine blk_put (cs := #[.int .i64 0, .int .i64 0, .int .i64 0, .string (⟨#[]⟩ : ByteArray), .slice none 0 0, .slice none 0 0]) ?_ 0 _ rfl; (with_reducible repeat (first | refine yN ?_ _ | refine yD ?_ | refine yA ?_ _)); exact BK213.out) NB213_0.out (by simp)); have n4_ := yM (KeepBut.trans (by repeat (first | (with_reducible first | exact HK.out | apply yK | apply zk | apply zl9 | apply zm | refine keep_far ?_ GW198.out _ | refine keep_far ?_ GW213.out _) | exact HK.out)) hk (.inl rfl)); have n5_ := yM (hb); have n6_ := yM (hi); clear BK198; clear HO205; clear HO208; clear BK213; clear HK; clear HB; clear HI0; have BK198 := n0_; have HO205 := n1_; have HO208 := n2_; have BK213 := n3_; have HK := n4_; have HB := n5_; have HI0 := n6_; clear n0_ n1_ n2_ n3_ n4_ n5_ n6_; (try clear hb); (try clear hb2); (try clear hk); (try clear hi); have hcz17_0 : w16.cell? ⟨gb213, 0, none⟩ = some (.int .i64 t199) := (yC BK213.out 0).trans rfl; have hcz17_1 : w16.cell? ⟨gb213, 1, none⟩ = some (.int .i64 t200) := (yC BK213.out 1).trans rfl; have hcz17_2 : w16.cell? ⟨gb213, 2, none⟩ = some (.int .i64 t201) := (yC BK213.out 2).trans rfl; have hcz17_3 : w16.cell? ⟨gb213, 3, none⟩ = some (.string t202) := (yC BK213.out 3).trans rfl; have hcz17_4 : w16.cell? ⟨gb213, 4, none⟩ = some (.slice Ao13 t203.length co13) := (yC BK213.out 4).trans rfl; have hcz17_5 : w16.cell? ⟨gb213, 5, none⟩ = some (.slice Ao14 t206.length co14) := (yC BK213.out 5).trans rfl; have hfz17_0 := yF BK213.out 0; have hfz17_1 := yF BK213.out 1; have hfz17_2 := yF BK213.out 2; have hfz17_3 := yF BK213.out 3; have hfz17_4 := yF BK213.out 4; have hfz17_5 := yF BK213.out 5; have hnb18 := NB198_0.out; have hnc18 := NB0_198.out; have hcz19_0 : w16.cell? ⟨gb198, 0, none⟩ = some (.int .i64 0) := (yC BK198.out 0).trans rfl; have hcz19_1 : w16.cell? ⟨gb198, 1, none⟩ = some (.int .i64 0) := (yC BK198.out 1).trans rfl; have hcz19_2 : w16.cell? ⟨gb198, 2, none⟩ = some (.int .i64 0) := (yC BK198.out 2).trans rfl; have hcz19_3 : w16.cell? ⟨gb198, 3, none⟩ = some (.string (⟨#[]⟩ : ByteArray)) := (yC BK198.out 3).trans rfl; have hcz19_4 : w16.cell? ⟨gb198, 4, none⟩ = some (.slice none 0 0) := (yC BK198.out 4).trans rfl; have hcz19_5 : w16.cell? ⟨gb198, 5, none⟩ = some (.slice none 0 0) := (yC BK198.out 5).trans rfl; have hfz19_0 := yF BK198.out 0; have hfz19_1 := yF BK198.out 1; have hfz19_2 := yF BK198.out 2; have hfz19_3 := yF BK198.out 3; have hfz19_4 := yF BK198.out 4; have hfz19_5 := yF BK198.out 5))
   refine bodyPost_ret (results_cell_row rfl _ _ gb198 67 #[.int .i64 t199, .int .i64 t200, .int .i64 t201, .string t202, .slice Ao13 t203.length co13, .slice Ao14 t206.length co14] (0, 0) _ rfl (by (with_reducible repeat (first | refine yN ?_ _ | refine yD ?_ | refine yA ?_ _)); refine blk_put (cs := #[.int .i64 t199, .int .i64 t200, .int .i64 t201, .string t202, .slice Ao13 t203.length co13, .slice none 0 0]) ?_ 5 _ rfl; (with_reducible repeat (first | refine yN ?_ _ | refine yD ?_ | refine yA ?_ _)); refine blk_put (cs := #[.int .i64 t199, .int .i64 t200, .int .i64 t201, .string t202, .slice none 0 0, .slice none 0 0]) ?_ 4 _ rfl; (with_reducible repeat (first | refine yN ?_ _ | refine yD ?_ | refine yA ?_ _)); refine blk_put (cs := #[.int .i64 t199, .int .i64 t200, .int .i64 t201, .string (⟨#[]⟩ : ByteArray), .slice none 0 0, .slice none 0 0]) ?_ 3 _ rfl; (with_reducible repeat (first | refine yN ?_ _ | refine yD ?_ | refine yA ?_ _)); refine blk_put (cs := #[.int .i64 t199, .int .i64 t200, .int .i64 0, .string (⟨#[]⟩ : ByteArray), .slice none 0 0, .slice none 0 0]) ?_ 2 _ rfl; (with_reducible repeat (first | refine yN ?_ _ | refine yD ?_ | refine yA ?_ _)); refine blk_put (cs := #[.int .i64 t199, .int .i64 0, .int .i64 0, .string (⟨#[]⟩ : ByteArray), .slice none 0 0, .slice none 0 0]) ?_ 1 _ rfl; (with_reducible repeat (first | refine yN ?_ _ | refine yD ?_ | refine yA ?_ _)); refine blk_put (cs := #[.int .i64 0, .int .i64 0, .int .i64 0, .string (⟨#[]⟩ : ByteArray), .slice none 0 0, .slice none 0 0]) ?_ 0 _ rfl; (with_reducible repeat (first | refine yN ?_ _ | refine yD ?_ | refine yA ?_ _)); exact BK198.out) Tryd.underlying67 rfl (by kernel_rfl)) rfl ?_
   exact ⟨_, _, by first | rfl | (simp [errW_none, errW_some] <;> rfl) | (simp [*, errW_none, errW_some] <;> rfl), by (with_reducible repeat (first | apply Kd.R_alloc | apply Kd.R_drewN | apply Kd.R_drew)); exact Kd.R_mono (Kd.R_far (p := ⟨gb198, 5, none⟩) (Kd.R_far (p := ⟨gb198, 4, none⟩) (Kd.R_far (p := ⟨gb198, 3, none⟩) (Kd.R_far (p := ⟨gb198, 2, none⟩) (Kd.R_far (p := ⟨gb198, 1, none⟩) (Kd.R_far (p := ⟨gb198, 0, none⟩) (Kd.R_mono HO205.out (fun k_ hk => (⟨hk, hk.1.2⟩ : _ ∧ k_ ≠ gb198))) (fun _ hk => hk.2) (.int .i64 t199)) (fun _ hk => hk.2) (.int .i64 t200)) (fun _ hk => hk.2) (.int .i64 t201)) (fun _ hk => hk.2) (.string t202)) (fun _ hk => hk.2) (.slice Ao13 t203.length co13)) (fun _ hk => hk.2) (.slice Ao14 t206.length co14)) (fun _ hk => hk.1.1.1), by (with_reducible repeat (first | apply Kd.R_alloc | apply Kd.R_drewN | apply Kd.R_drew)); exact Kd.R_mono (Kd.R_far (p := ⟨gb198, 5, none⟩) (Kd.R_far (p := ⟨gb198, 4, none⟩) (Kd.R_far (p := ⟨gb198, 3, none⟩) (Kd.R_far (p := ⟨gb198, 2, none⟩) (Kd.R_far (p := ⟨gb198, 1, none⟩) (Kd.R_far (p := ⟨gb198, 0, none⟩) (Kd.R_mono HO208.out (fun k_ hk => (⟨hk, hk.1.2⟩ : _ ∧ k_ ≠ gb198))) (fun _ hk => hk.2) (.int .i64 t199)) (fun _ hk => hk.2) (.int .i64 t200)) (fun _ hk => hk.2) (.int .i64 t201)) (fun _ hk => hk.2) (.string t202)) (fun _ hk => hk.2) (.slice Ao13 t203.length co13)) (fun _ hk => hk.2) (.slice Ao14 t206.length co14)) (fun _ hk => hk.1.1.1), by repeat (first | (with_reducible first | exact HI0.out | apply wA | apply wN | apply wD | apply w_0 | apply w_1 | apply w_2 | apply w_3 | refine wR ?_ NB0_198.out _ | refine wR ?_ NB0_213.out _) | exact HI0.out), by repeat (first | (with_reducible first | exact HB.out | apply zA | apply zN | apply zD | refine zq9 ?_ (wG HI0.out) | refine zq9 ?_ GE198.out | refine zq9 ?_ GE213.out) | exact HB.out), by repeat (first | (with_reducible first | exact HK.out | apply yK | apply zk | apply zl9 | apply zm | refine keep_far ?_ GW198.out _ | refine keep_far ?_ GW213.out _) | exact HK.out)⟩
  ·rw [if_neg c4] at H
   have c4b0 : (t211 == 0) = false := yB c4
   have c4b1 : (t211 != 0) = true := bne_iff_ne.mpr c4
   simp only [Option.some.injEq, Prod.mk.injEq] at H
   obtain ⟨rfl, rfl, rfl, rfl, rfl, rfl, rfl, rfl, rfl, rfl⟩ := H
   go_enter Tryd.func63, Tryd.ntmps63
   go_wp2_with (first | ((with_reducible refine gate_dst (N := 2) rfl ?_); refine box_event ?hg (N := 2) ?hd (cs := #[.int .i64 0, .int .i64 0, .int .i64 0, .string (⟨#[]⟩ : ByteArray), .slice none 0 0, .slice none 0 0]) (t := 67) ?hr ?_; (case hd => rfl); (case hg => rfl); (case hr => first | (go_simp; done) | (go_simp; rfl)); intro gb198 hg w20 hbox hb; have n0_ := yM (IsS79.below (by repeat (first | (with_reducible first | exact HI0.out | apply wA | apply wN | apply wD | apply w_0 | apply w_1 | apply w_2 | apply w_3) | exact HI0.out)) hb); have n1_ := yM (KeepBut.trans (by repeat (first | (with_reducible first | exact HK.out | apply yK | apply zk | apply zl9 | apply zm) | exact HK.out)) (KeepBut.of_below hb g none) (.inl rfl)); have n2_ := yM (below_step (by repeat (first | (with_reducible first | exact HB.out | apply zA | apply zN | apply zD | refine zq9 ?_ (wG HI0.out)) | exact HB.out)) hb); have n3_ := yM (hbox); have n4_ := yM ((by rw [hg]; exact (keep_size (w := w) (g := g) (row := none) (by repeat (first | (with_reducible first | exact HK.out | apply yK | apply zk | apply zl9 | apply zm) | exact HK.out))) : w.heap.size ≤ gb198)); have n5_ := yM ((Nat.le_trans HW0.out (by rw [hg]; exact (keep_size (w := w) (g := g) (row := none) (by repeat (first | (with_reducible first | exact HK.out | apply yK | apply zk | apply zl9 | apply zm) | exact HK.out))) : w.heap.size ≤ gb198) : w0.heap.size ≤ gb198)); have n6_ := yM ((by rw [hg]; exact Nat.ne_of_lt (IsS79.lt (show IsS79 w0 _ g s0_0 s0_1 s0_2 s0_3 from by repeat (first | (with_reducible first | exact HI0.out | apply wA | apply wN | apply wD | apply w_0 | apply w_1 | apply w_2 | apply w_3) | exact HI0.out))) : g ≠ gb198)); have n7_ := yM ((by rw [hg]; exact Nat.ne_of_gt (IsS79.lt (show IsS79 w0 _ g s0_0 s0_1 s0_2 s0_3 from by repeat (first | (with_reducible first | exact HI0.out | apply wA | apply wN | apply wD | apply w_0 | apply w_1 | apply w_2 | apply w_3) | exact HI0.out))) : gb198 ≠ g)); clear HI0; clear HK; clear HB; have HI0 := n0_; have HK := n1_; have HB := n2_; have BK198 := n3_; have GW198 := n4_; have GE198 := n5_; have NB0_198 := n6_; have NB198_0 := n7_; clear n0_ n1_ n2_ n3_ n4_ n5_ n6_ n7_; clear hb hbox hg; obtain ⟨HGz21, hgz21⟩ := HI0.out; have hcz21_0 := cellS79_0 HGz21; have hcz21_1 := cellS79_1 HGz21; have hcz21_2 := cellS79_2 HGz21; have hcz21_3 := cellS79_3 HGz21; have hfz21_0 := yF HGz21 0; have hfz21_1 := yF HGz21 1; have hfz21_2 := yF HGz21 2; have hfz21_3 := yF HGz21 3; clear HGz21 hgz21) | ((with_reducible refine gate_callee (f := 45) rfl ?_); refine goesL_ (some 11) rfl rfl Tryd.func45 (by kernel_rfl) rfl #[.pointer (some ⟨g, 0, none⟩)] rfl (by (try simp only [List.map_toArray, List.map_cons, List.map_nil]); first | done | rfl | (simp only [List.length_drop, List.length_take]; rfl)) ?_; (with_reducible refine (T_text.calls k g s0_0 s0_1 s0_2 s0_3 t199 t200 t201 t202 t203 t206 t209 t210 t211 t212 w0 _ ?side1 ?side2 A3.out).mono ?_); (case side1 => repeat (first | (with_reducible first | exact HI0.out | apply wA | apply wN | apply wD | apply w_0 | apply w_1 | apply w_2 | apply w_3 | refine wR ?_ NB0_198.out _) | exact HI0.out)); (case side2 => repeat (first | (with_reducible first | exact HB.out | apply zA | apply zN | apply zD | refine zq9 ?_ (wG HI0.out) | refine zq9 ?_ GE198.out) | exact HB.out)); rintro e w22 ⟨v204, v207, rfl, ho0, ho1, hi, hb, hk⟩; refine ⟨_, rfl, ?_⟩; have n0_ := yM (KeepBut.blk hk (g' := gb198) (o := .cells #[.int .i64 0, .int .i64 0, .int .i64 0, .string (⟨#[]⟩ : ByteArray), .slice none 0 0, .slice none 0 0] 67 (0, 0)) (by (with_reducible repeat (first | refine yN ?_ _ | refine yD ?_ | refine yA ?_ _)); exact BK198.out) NB198_0.out (by simp)); have n1_ := yM (Kd.R_lower (Kd.R_newB ho0 (g := gb198) (o := .cells #[.int .i64 0, .int .i64 0, .int .i64 0, .string (⟨#[]⟩ : ByteArray), .slice none 0 0, .slice none 0 0] 67 (0, 0)) (by (with_reducible repeat (first | refine yN ?_ _ | refine yD ?_ | refine yA ?_ _)); exact BK198.out)) (keep_size (w := w) (g := g) (row := none) (by repeat (first | (with_reducible first | exact HK.out | apply yK | apply zk | apply zl9 | apply zm | refine keep_far ?_ GW198.out _) | exact HK.out)))); have n2_ := yM (Kd.R_lower (Kd.R_newB ho1 (g := gb198) (o := .cells #[.int .i64 0, .int .i64 0, .int .i64 0, .string (⟨#[]⟩ : ByteArray), .slice none 0 0, .slice none 0 0] 67 (0, 0)) (by (with_reducible repeat (first | refine yN ?_ _ | refine yD ?_ | refine yA ?_ _)); exact BK198.out)) (keep_size (w := w) (g := g) (row := none) (by repeat (first | (with_reducible first | exact HK.out | apply yK | apply zk | apply zl9 | apply zm | refine keep_far ?_ GW198.out _) | exact HK.out)))); have n3_ := yM (KeepBut.trans (by repeat (first | (with_reducible first | exact HK.out | apply yK | apply zk | apply zl9 | apply zm | refine keep_far ?_ GW198.out _) | exact HK.out)) hk (.inl rfl)); have n4_ := yM (hb); have n5_ := yM (hi); clear BK198; clear HK; clear HB; clear HI0; have BK198 := n0_; have HO205 := n1_; have HO208 := n2_; have HK := n3_; have HB := n4_; have HI0 := n5_; clear n0_ n1_ n2_ n3_ n4_ n5_; (try clear hb); (try clear hb2); (try clear hk); (try clear hi); (try clear ho0); (try clear ho1)) | ((with_reducible refine gate_dst (N := 3) rfl ?_); refine box_event ?hg (N := 3) ?hd (cs := #[.int .i64 0, .int .i64 0, .int .i64 0, .string (⟨#[]⟩ : ByteArray), .slice none 0 0, .slice none 0 0]) (t := 67) ?hr ?_; (case hd => rfl); (case hg => rfl); (case hr => first | (go_simp; done) | (go_simp; rfl)); intro gb213 hg w23 hbox hb; have n0_ := yM (Kd.R_below (Kd.R_elderB (by (with_reducible repeat (first | apply Kd.R_alloc | apply Kd.R_drewN | apply Kd.R_drew)); exact HO205.out) gb213 (Nat.le_of_eq hg.symm)) hb); have n1_ := yM (Kd.R_below (Kd.R_elderB (by (with_reducible repeat (first | apply Kd.R_alloc | apply Kd.R_drewN | apply Kd.R_drew)); exact HO208.out) gb213 (Nat.le_of_eq hg.symm)) hb); have n2_ := yM (IsS79.below (by repeat (first | (with_reducible first | exact HI0.out | apply wA | apply wN | apply wD | apply w_0 | apply w_1 | apply w_2 | apply w_3 | refine wR ?_ NB0_198.out _) | exact HI0.out)) hb); have n3_ := yM (blk_below (g := gb198) (o := .cells #[.int .i64 0, .int .i64 0, .int .i64 0, .string (⟨#[]⟩ : ByteArray), .slice none 0 0, .slice none 0 0] 67 (0, 0)) (by (with_reducible repeat (first | refine yN ?_ _ | refine yD ?_ | refine yA ?_ _)); exact BK198.out) hb); have n4_ := yM (KeepBut.trans (by repeat (first | (with_reducible first | exact HK.out | apply yK | apply zk | apply zl9 | apply zm | refine keep_far ?_ GW198.out _) | exact HK.out)) (KeepBut.of_below hb g none) (.inl rfl)); have n5_ := yM (below_step (by repeat (first | (with_reducible first | exact HB.out | apply zA | apply zN | apply zD | refine zq9 ?_ (wG HI0.out) | refine zq9 ?_ GE198.out) | exact HB.out)) hb); have n6_ := yM (hbox); have n7_ := yM ((by rw [hg]; exact (keep_size (w := w) (g := g) (row := none) (by repeat (first | (with_reducible first | exact HK.out | apply yK | apply zk | apply zl9 | apply zm | refine keep_far ?_ GW198.out _) | exact HK.out))) : w.heap.size ≤ gb213)); have n8_ := yM ((Nat.le_trans HW0.out (by rw [hg]; exact (keep_size (w := w) (g := g) (row := none) (by repeat (first | (with_reducible first | exact HK.out | apply yK | apply zk | apply zl9 | apply zm | refine keep_far ?_ GW198.out _) | exact HK.out))) : w.heap.size ≤ gb213) : w0.heap.size ≤ gb213)); have n9_ := yM ((by rw [hg]; exact Nat.ne_of_lt (blk_lt (g := gb198) (o := .cells #[.int .i64 0, .int .i64 0, .int .i64 0, .string (⟨#[]⟩ : ByteArray), .slice none 0 0, .slice none 0 0] 67 (0, 0)) (by (with_reducible repeat (first | refine yN ?_ _ | refine yD ?_ | refine yA ?_ _)); exact BK198.out)) : gb198 ≠ gb213)); have n10_ := yM ((by rw [hg]; exact Nat.ne_of_gt (blk_lt (g := gb198) (o := .cells #[.int .i64 0, .int .i64 0, .int .i64 0, .string (⟨#[]⟩ : ByteArray), .slice none 0 0, .slice none 0 0] 67 (0, 0)) (by (with_reducible repeat (first | refine yN ?_ _ | refine yD ?_ | refine yA ?_ _)); exact BK198.out)) : gb213 ≠ gb198)); have n11_ := yM ((by rw [hg]; exact Nat.ne_of_lt (IsS79.lt (show IsS79 w0 _ g t209 t210 t211 t212 from by repeat (first | (with_reducible first | exact HI0.out | apply wA | apply wN | apply wD | apply w_0 | apply w_1 | apply w_2 | apply w_3 | refine wR ?_ NB0_198.out _) | exact HI0.out))) : g ≠ gb213)); have n12_ := yM ((by rw [hg]; exact Nat.ne_of_gt (IsS79.lt (show IsS79 w0 _ g t209 t210 t211 t212 from by repeat (first | (with_reducible first | exact HI0.out | apply wA | apply wN | apply wD | apply w_0 | apply w_1 | apply w_2 | apply w_3 | refine wR ?_ NB0_198.out _) | exact HI0.out))) : gb213 ≠ g)); clear HO205; clear HO208; clear HI0; clear BK198; clear HK; clear HB; have HO205 := n0_; have HO208 := n1_; have HI0 := n2_; have BK198 := n3_; have HK := n4_; have HB := n5_; have BK213 := n6_; have GW213 := n7_; have GE213 := n8_; have NB198_213 := n9_; have NB213_198 := n10_; have NB0_213 := n11_; have NB213_0 := n12_; clear n0_ n1_ n2_ n3_ n4_ n5_ n6_ n7_ n8_ n9_ n10_ n11_ n12_; clear hb hbox hg; have hnb24 := NB213_198.out; have hnc24 := NB198_213.out; have hnb25 := NB213_0.out; have hnc25 := NB0_213.out; have hcz26_0 : w23.cell? ⟨gb213, 0, none⟩ = some (.int .i64 0) := (yC BK213.out 0).trans rfl; have hcz26_1 : w23.cell? ⟨gb213, 1, none⟩ = some (.int .i64 0) := (yC BK213.out 1).trans rfl; have hcz26_2 : w23.cell? ⟨gb213, 2, none⟩ = some (.int .i64 0) := (yC BK213.out 2).trans rfl; have hcz26_3 : w23.cell? ⟨gb213, 3, none⟩ = some (.string (⟨#[]⟩ : ByteArray)) := (yC BK213.out 3).trans rfl; have hcz26_4 : w23.cell? ⟨gb213, 4, none⟩ = some (.slice none 0 0) := (yC BK213.out 4).trans rfl; have hcz26_5 : w23.cell? ⟨gb213, 5, none⟩ = some (.slice none 0 0) := (yC BK213.out 5).trans rfl; have hfz26_0 := yF BK213.out 0; have hfz26_1 := yF BK213.out 1; have hfz26_2 := yF BK213.out 2; have hfz26_3 := yF BK213.out 3; have hfz26_4 := yF BK213.out 4; have hfz26_5 := yF BK213.out 5; obtain ⟨Ao27, co27, eo27⟩ := Kd.R_slice HO205.out; subst eo27; obtain ⟨Ao28, co28, eo28⟩ := Kd.R_slice HO208.out; subst eo28; obtain ⟨HGz29, hgz29⟩ := HI0.out; have hcz29_0 := cellS79_0 HGz29; have hcz29_1 := cellS79_1 HGz29; have hcz29_2 := cellS79_2 HGz29; have hcz29_3 := cellS79_3 HGz29; have hfz29_0 := yF HGz29 0; have hfz29_1 := yF HGz29 1; have hfz29_2 := yF HGz29 2; have hfz29_3 := yF HGz29 3; clear HGz29 hgz29; have hnb30 := NB198_0.out; have hnc30 := NB0_198.out; have hcz31_0 : w23.cell? ⟨gb198, 0, none⟩ = some (.int .i64 0) := (yC BK198.out 0).trans rfl; have hcz31_1 : w23.cell? ⟨gb198, 1, none⟩ = some (.int .i64 0) := (yC BK198.out 1).trans rfl; have hcz31_2 : w23.cell? ⟨gb198, 2, none⟩ = some (.int .i64 0) := (yC BK198.out 2).trans rfl; have hcz31_3 : w23.cell? ⟨gb198, 3, none⟩ = some (.string (⟨#[]⟩ : ByteArray)) := (yC BK198.out 3).trans rfl; have hcz31_4 : w23.cell? ⟨gb198, 4, none⟩ = some (.slice none 0 0) := (yC BK198.out 4).trans rfl; have hcz31_5 : w23.cell? ⟨gb198, 5, none⟩ = some (.slice none 0 0) := (yC BK198.out 5).trans rfl; have hfz31_0 := yF BK198.out 0; have hfz31_1 := yF BK198.out 1; have hfz31_2 := yF BK198.out 2; have hfz31_3 := yF BK198.out 3; have hfz31_4 := yF BK198.out 4; have hfz31_5 := yF BK198.out 5))
   refine bodyPost_ret (results_cell_row rfl _ _ gb198 67 #[.int .i64 t199, .int .i64 t200, .int .i64 t201, .string t202, .slice Ao27 t203.length co27, .slice Ao28 t206.length co28] (0, 0) _ rfl (by (with_reducible repeat (first | refine yN ?_ _ | refine yD ?_ | refine yA ?_ _)); refine blk_put (cs := #[.int .i64 t199, .int .i64 t200, .int .i64 t201, .string t202, .slice Ao27 t203.length co27, .slice none 0 0]) ?_ 5 _ rfl; (with_reducible repeat (first | refine yN ?_ _ | refine yD ?_ | refine yA ?_ _)); refine blk_put (cs := #[.int .i64 t199, .int .i64 t200, .int .i64 t201, .string t202, .slice none 0 0, .slice none 0 0]) ?_ 4 _ rfl; (with_reducible repeat (first | refine yN ?_ _ | refine yD ?_ | refine yA ?_ _)); refine blk_put (cs := #[.int .i64 t199, .int .i64 t200, .int .i64 t201, .string (⟨#[]⟩ : ByteArray), .slice none 0 0, .slice none 0 0]) ?_ 3 _ rfl; (with_reducible repeat (first | refine yN ?_ _ | refine yD ?_ | refine yA ?_ _)); refine blk_put (cs := #[.int .i64 t199, .int .i64 t200, .int .i64 0, .string (⟨#[]⟩ : ByteArray), .slice none 0 0, .slice none 0 0]) ?_ 2 _ rfl; (with_reducible repeat (first | refine yN ?_ _ | refine yD ?_ | refine yA ?_ _)); refine blk_put (cs := #[.int .i64 t199, .int .i64 0, .int .i64 0, .string (⟨#[]⟩ : ByteArray), .slice none 0 0, .slice none 0 0]) ?_ 1 _ rfl; (with_reducible repeat (first | refine yN ?_ _ | refine yD ?_ | refine yA ?_ _)); refine blk_put (cs := #[.int .i64 0, .int .i64 0, .int .i64 0, .string (⟨#[]⟩ : ByteArray), .slice none 0 0, .slice none 0 0]) ?_ 0 _ rfl; (with_reducible repeat (first | refine yN ?_ _ | refine yD ?_ | refine yA ?_ _)); refine yR ?_ NB198_213.out _; (with_reducible repeat (first | refine yN ?_ _ | refine yD ?_ | refine yA ?_ _)); refine yR ?_ NB198_213.out _; (with_reducible repeat (first | refine yN ?_ _ | refine yD ?_ | refine yA ?_ _)); refine yR ?_ NB198_213.out _; (with_reducible repeat (first | refine yN ?_ _ | refine yD ?_ | refine yA ?_ _)); refine yR ?_ NB198_213.out _; (with_reducible repeat (first | refine yN ?_ _ | refine yD ?_ | refine yA ?_ _)); refine yR ?_ NB198_213.out _; (with_reducible repeat (first | refine yN ?_ _ | refine yD ?_ | refine yA ?_ _)); refine yR ?_ NB198_213.out _; (with_reducible repeat (first | refine yN ?_ _ | refine yD ?_ | refine yA ?_ _)); exact BK198.out) Tryd.underlying67 rfl (by kernel_rfl)) rfl ?_
   exact ⟨_, _, by first | rfl | (simp [errW_none, errW_some] <;> rfl) | (simp [*, errW_none, errW_some] <;> rfl), by (with_reducible repeat (first | apply Kd.R_alloc | apply Kd.R_drewN | apply Kd.R_drew)); exact Kd.R_mono (Kd.R_far (p := ⟨gb198, 5, none⟩) (Kd.R_far (p := ⟨gb198, 4, none⟩) (Kd.R_far (p := ⟨gb198, 3, none⟩) (Kd.R_far (p := ⟨gb198, 2, none⟩) (Kd.R_far (p := ⟨gb198, 1, none⟩) (Kd.R_far (p := ⟨gb198, 0, none⟩) (Kd.R_far (p := ⟨gb213, 5, none⟩) (Kd.R_far (p := ⟨gb213, 4, none⟩) (Kd.R_far (p := ⟨gb213, 3, none⟩) (Kd.R_far (p := ⟨gb213, 2, none⟩) (Kd.R_far (p := ⟨gb213, 1, none⟩) (Kd.R_far (p := ⟨gb213, 0, none⟩) (Kd.R_mono (Kd.R_mono HO205.out (fun k_ hk => (⟨hk, hk.2⟩ : _ ∧ k_ ≠ gb213))) (fun k_ hk => (⟨hk, hk.1.1.2⟩ : _ ∧ k_ ≠ gb198))) (fun _ hk => hk.1.2) (.int .i64 t199)) (fun _ hk => hk.1.2) (.int .i64 t200)) (fun _ hk => hk.1.2) (.int .i64 t201)) (fun _ hk => hk.1.2) (.string t202)) (fun _ hk => hk.1.2) (.slice Ao27 t203.length co27)) (fun _ hk => hk.1.2) (.slice Ao28 t206.length co28)) (fun _ hk => hk.2) (.int .i64 t199)) (fun _ hk => hk.2) (.int .i64 t200)) (fun _ hk => hk.2) (.int .i64 t201)) (fun _ hk => hk.2) (.string t202)) (fun _ hk => hk.2) (.slice Ao27 t203.length co27)) (fun _ hk => hk.2) (.slice Ao28 t206.length co28)) (fun _ hk => hk.1.1.1.1), by (with_reducible repeat (first | apply Kd.R_alloc | apply Kd.R_drewN | apply Kd.R_drew)); exact Kd.R_mono (Kd.R_far (p := ⟨gb198, 5, none⟩) (Kd.R_far (p := ⟨gb198, 4, none⟩) (Kd.R_far (p := ⟨gb198, 3, none⟩) (Kd.R_far (p := ⟨gb198, 2, none⟩) (Kd.R_far (p := ⟨gb198, 1, none⟩) (Kd.R_far (p := ⟨gb198, 0, none⟩) (Kd.R_far (p := ⟨gb213, 5, none⟩) (Kd.R_far (p := ⟨gb213, 4, none⟩) (Kd.R_far (p := ⟨gb213, 3, none⟩) (Kd.R_far (p := ⟨gb213, 2, none⟩) (Kd.R_far (p := ⟨gb213, 1, none⟩) (Kd.R_far (p := ⟨gb213, 0, none⟩) (Kd.R_mono (Kd.R_mono HO208.out (fun k_ hk => (⟨hk, hk.2⟩ : _ ∧ k_ ≠ gb213))) (fun k_ hk => (⟨hk, hk.1.1.2⟩ : _ ∧ k_ ≠ gb198))) (fun _ hk => hk.1.2) (.int .i64 t199)) (fun _ hk => hk.1.2) (.int .i64 t200)) (fun _ hk => hk.1.2) (.int .i64 t201)) (fun _ hk => hk.1.2) (.string t202)) (fun _ hk => hk.1.2) (.slice Ao27 t203.length co27)) (fun _ hk => hk.1.2) (.slice Ao28 t206.length co28)) (fun _ hk => hk.2) (.int .i64 t199)) (fun _ hk => hk.2) (.int .i64 t200)) (fun _ hk => hk.2) (.int .i64 t201)) (fun _ hk => hk.2) (.string t202)) (fun _ hk => hk.2) (.slice Ao27 t203.length co27)) (fun _ hk => hk.2) (.slice Ao28 t206.length co28)) (fun _ hk => hk.1.1.1.1), by repeat (first | (with_reducible first | exact HI0.out | apply wA | apply wN | apply wD | apply w_0 | apply w_1 | apply w_2 | apply w_3 | refine wR ?_ NB0_198.out _ | refine wR ?_ NB0_213.out _) | exact HI0.out), by repeat (first | (with_reducible first | exact HB.out | apply zA | apply zN | apply zD | refine zq9 ?_ (wG HI0.out) | refine zq9 ?_ GE198.out | refine zq9 ?_ GE213.out) | exact HB.out), by repeat (first | (with_reducible first | exact HK.out | apply yK | apply zk | apply zl9 | apply zm | refine keep_far ?_ GW198.out _ | refine keep_far ?_ GW213.out _) | exact HK.out)⟩
 ·rw [if_neg c2] at H
  have c2b0 : (s0_2 == 0) = false := yB c2
  have c2b1 : (s0_2 != 0) = true := bne_iff_ne.mpr c2
  simp only [Option.some.injEq, Prod.mk.injEq] at H
  obtain ⟨rfl, rfl, rfl, rfl, rfl, rfl, rfl, rfl, rfl, rfl⟩ := H
  go_enter Tryd.func63, Tryd.ntmps63
  go_wp2_with (first | ((with_reducible refine gate_dst (N := 2) rfl ?_); refine box_event ?hg (N := 2) ?hd (cs := #[.int .i64 0, .int .i64 0, .int .i64 0, .string (⟨#[]⟩ : ByteArray), .slice none 0 0, .slice none 0 0]) (t := 67) ?hr ?_; (case hd => rfl); (case hg => rfl); (case hr => first | (go_simp; done) | (go_simp; rfl)); intro gb198 hg w32 hbox hb; have n0_ := yM (IsS79.below (by repeat (first | (with_reducible first | exact HI0.out | apply wA | apply wN | apply wD | apply w_0 | apply w_1 | apply w_2 | apply w_3) | exact HI0.out)) hb); have n1_ := yM (KeepBut.trans (by repeat (first | (with_reducible first | exact HK.out | apply yK | apply zk | apply zl9 | apply zm) | exact HK.out)) (KeepBut.of_below hb g none) (.inl rfl)); have n2_ := yM (below_step (by repeat (first | (with_reducible first | exact HB.out | apply zA | apply zN | apply zD | refine zq9 ?_ (wG HI0.out)) | exact HB.out)) hb); have n3_ := yM (hbox); have n4_ := yM ((by rw [hg]; exact (keep_size (w := w) (g := g) (row := none) (by repeat (first | (with_reducible first | exact HK.out | apply yK | apply zk | apply zl9 | apply zm) | exact HK.out))) : w.heap.size ≤ gb198)); have n5_ := yM ((Nat.le_trans HW0.out (by rw [hg]; exact (keep_size (w := w) (g := g) (row := none) (by repeat (first | (with_reducible first | exact HK.out | apply yK | apply zk | apply zl9 | apply zm) | exact HK.out))) : w.heap.size ≤ gb198) : w0.heap.size ≤ gb198)); have n6_ := yM ((by rw [hg]; exact Nat.ne_of_lt (IsS79.lt (show IsS79 w0 _ g s0_0 s0_1 s0_2 s0_3 from by repeat (first | (with_reducible first | exact HI0.out | apply wA | apply wN | apply wD | apply w_0 | apply w_1 | apply w_2 | apply w_3) | exact HI0.out))) : g ≠ gb198)); have n7_ := yM ((by rw [hg]; exact Nat.ne_of_gt (IsS79.lt (show IsS79 w0 _ g s0_0 s0_1 s0_2 s0_3 from by repeat (first | (with_reducible first | exact HI0.out | apply wA | apply wN | apply wD | apply w_0 | apply w_1 | apply w_2 | apply w_3) | exact HI0.out))) : gb198 ≠ g)); clear HI0; clear HK; clear HB; have HI0 := n0_; have HK := n1_; have HB := n2_; have BK198 := n3_; have GW198 := n4_; have GE198 := n5_; have NB0_198 := n6_; have NB198_0 := n7_; clear n0_ n1_ n2_ n3_ n4_ n5_ n6_ n7_; clear hb hbox hg; obtain ⟨HGz33, hgz33⟩ := HI0.out; have hcz33_0 := cellS79_0 HGz33; have hcz33_1 := cellS79_1 HGz33; have hcz33_2 := cellS79_2 HGz33; have hcz33_3 := cellS79_3 HGz33; have hfz33_0 := yF HGz33 0; have hfz33_1 := yF HGz33 1; have hfz33_2 := yF HGz33 2; have hfz33_3 := yF HGz33 3; clear HGz33 hgz33; have hnb34 := NB198_0.out; have hnc34 := NB0_198.out; have hcz35_0 : w32.cell? ⟨gb198, 0, none⟩ = some (.int .i64 0) := (yC BK198.out 0).trans rfl; have hcz35_1 : w32.cell? ⟨gb198, 1, none⟩ = some (.int .i64 0) := (yC BK198.out 1).trans rfl; have hcz35_2 : w32.cell? ⟨gb198, 2, none⟩ = some (.int .i64 0) := (yC BK198.out 2).trans rfl; have hcz35_3 : w32.cell? ⟨gb198, 3, none⟩ = some (.string (⟨#[]⟩ : ByteArray)) := (yC BK198.out 3).trans rfl; have hcz35_4 : w32.cell? ⟨gb198, 4, none⟩ = some (.slice none 0 0) := (yC BK198.out 4).trans rfl; have hcz35_5 : w32.cell? ⟨gb198, 5, none⟩ = some (.slice none 0 0) := (yC BK198.out 5).trans rfl; have hfz35_0 := yF BK198.out 0; have hfz35_1 := yF BK198.out 1; have hfz35_2 := yF BK198.out 2; have hfz35_3 := yF BK198.out 3; have hfz35_4 := yF BK198.out 4; have hfz35_5 := yF BK198.out 5))
  refine bodyPost_ret (results_cell_row rfl _ _ gb198 67 #[.int .i64 0, .int .i64 0, .int .i64 0, .string (⟨#[]⟩ : ByteArray), .slice none 0 0, .slice none 0 0] (0, 0) _ rfl (by (with_reducible repeat (first | refine yN ?_ _ | refine yD ?_ | refine yA ?_ _)); refine blk_put (cs := #[.int .i64 0, .int .i64 0, .int .i64 0, .string (⟨#[]⟩ : ByteArray), .slice none 0 0, .slice none 0 0]) ?_ 5 _ rfl; (with_reducible repeat (first | refine yN ?_ _ | refine yD ?_ | refine yA ?_ _)); refine blk_put (cs := #[.int .i64 0, .int .i64 0, .int .i64 0, .string (⟨#[]⟩ : ByteArray), .slice none 0 0, .slice none 0 0]) ?_ 4 _ rfl; (with_reducible repeat (first | refine yN ?_ _ | refine yD ?_ | refine yA ?_ _)); refine blk_put (cs := #[.int .i64 0, .int .i64 0, .int .i64 0, .string (⟨#[]⟩ : ByteArray), .slice none 0 0, .slice none 0 0]) ?_ 3 _ rfl; (with_reducible repeat (first | refine yN ?_ _ | refine yD ?_ | refine yA ?_ _)); refine blk_put (cs := #[.int .i64 0, .int .i64 0, .int .i64 0, .string (⟨#[]⟩ : ByteArray), .slice none 0 0, .slice none 0 0]) ?_ 2 _ rfl; (with_reducible repeat (first | refine yN ?_ _ | refine yD ?_ | refine yA ?_ _)); refine blk_put (cs := #[.int .i64 0, .int .i64 0, .int .i64 0, .string (⟨#[]⟩ : ByteArray), .slice none 0 0, .slice none 0 0]) ?_ 1 _ rfl; (with_reducible repeat (first | refine yN ?_ _ | refine yD ?_ | refine yA ?_ _)); refine blk_put (cs := #[.int .i64 0, .int .i64 0, .int .i64 0, .string (⟨#[]⟩ : ByteArray), .slice none 0 0, .slice none 0 0]) ?_ 0 _ rfl; (with_reducible repeat (first | refine yN ?_ _ | refine yD ?_ | refine yA ?_ _)); exact BK198.out) Tryd.underlying67 rfl (by kernel_rfl)) rfl ?_
  exact ⟨_, _, by first | rfl | (simp [errW_none, errW_some] <;> rfl) | (simp [*, errW_none, errW_some] <;> rfl), by first | exact Kd.R_nil _ _ _ _ _ | exact Kd.N_nil _ _ _ _ _ | exact Kd.V_nil _ _ _ _ _ | exact Kd.Q_nil _ _ _ _ _ | exact Kd.S_nil _ _ _ _ _, by first | exact Kd.R_nil _ _ _ _ _ | exact Kd.N_nil _ _ _ _ _ | exact Kd.V_nil _ _ _ _ _ | exact Kd.Q_nil _ _ _ _ _ | exact Kd.S_nil _ _ _ _ _, by repeat (first | (with_reducible first | exact HI0.out | apply wA | apply wN | apply wD | apply w_0 | apply w_1 | apply w_2 | apply w_3 | refine wR ?_ NB0_198.out _) | exact HI0.out), by repeat (first | (with_reducible first | exact HB.out | apply zA | apply zN | apply zD | refine zq9 ?_ (wG HI0.out) | refine zq9 ?_ GE198.out) | exact HB.out), by repeat (first | (with_reducible first | exact HK.out | apply yK | apply zk | apply zl9 | apply zm | refine keep_far ?_ GW198.out _) | exact HK.out)⟩
attribute [local go_sem] max2_int min2_int max_two min_two max_three min_three max_four min_four
set_option linter.unusedVariables false
set_option linter.unusedSimpArgs false
def T_word.f (s0_0 : ByteArray) (s0_1 : Int) (s0_2 : Int) (s0_3 : Int) (a1 : ByteArray) (a2 : Int) : Option (Int × Int × Int × ByteArray × (List (S67)) × (List (S67)) × ByteArray × Int × Int × Int) := if (wrap64 ((s0_0.size : Int) - s0_1)) < (a1.size : Int) then ((T_fail.f s0_0 s0_1 s0_2 s0_3 120 s0_1).bind fun bt257 => (some (a2, s0_1, 0, (⟨#[]⟩ : ByteArray), ([] : List (S67)), ([] : List (S67)), bt257.1, bt257.2.1, bt257.2.2.1, bt257.2.2.2))) else (if 0 ≤ s0_1 then (if s0_1 ≤ (wrap64 (s0_1 + (a1.size : Int))) then (if (wrap64 (s0_1 + (a1.size : Int))) ≤ (s0_0.size : Int) then (if (s0_0.extract (s0_1 : Int).toNat ((wrap64 (s0_1 + (a1.size : Int))) : Int).toNat).toList = a1.toList then (some (a2, s0_1, wrap64 (s0_1 + (a1.size : Int)), (⟨#[]⟩ : ByteArray), ([] : List (S67)), ([] : List (S67)), s0_0, wrap64 (s0_1 + (a1.size : Int)), s0_2, s0_3)) else ((T_fail.f s0_0 s0_1 s0_2 s0_3 120 s0_1).bind fun bt261 => (some (a2, s0_1, 0, (⟨#[]⟩ : ByteArray), ([] : List (S67)), ([] : List (S67)), bt261.1, bt261.2.1, bt261.2.2.1, bt261.2.2.2)))) else (none)) else (none)) else (none))
def T_run.l0 : Nat → Int → ByteArray → Int → Int → Int → Option (Int × ByteArray × Int × Int × Int)
 | 0, _, _, _, _, _ => none
 | k + 1, x1, x1000, x1001, x1002, x1003 => if x1 < (x1000.size : Int) then (if 0 ≤ x1 then (if (bt x1000 x1) ≥ 48 then (if (bt x1000 x1) ≤ 57 then (T_run.l0 k (wrap64 (x1 + 1)) x1000 x1001 x1002 x1003) else (some (x1, x1000, x1001, x1002, x1003))) else (some (x1, x1000, x1001, x1002, x1003))) else (none)) else (some (x1, x1000, x1001, x1002, x1003))
def T_run.f (k : Nat) (s0_0 : ByteArray) (s0_1 : Int) (s0_2 : Int) (s0_3 : Int) (a1 : Int) : Option (Int × ByteArray × Int × Int × Int) := T_run.l0 k a1 s0_0 s0_1 s0_2 s0_3
set_option maxHeartbeats 8000000 in
set_option maxRecDepth 100000 in
theorem T_run.calls (k : Nat) (g : Nat) (s0_0 : ByteArray) (s0_1 : Int) (s0_2 : Int) (s0_3 : Int) (a1 : Int) (r1 : Int) (r2 : ByteArray) (r3 : Int) (r4 : Int) (r5 : Int) (w0 w : World) (hI : IsS79 w0 w g s0_0 s0_1 s0_2 s0_3) (hB : Below w0.heap.size w0 w) (h : T_run.f k s0_0 s0_1 s0_2 s0_3 a1 = some (r1, r2, r3, r4, r5)) :
  Calls Tryd.prog 65 #[.pointer (some ⟨g, 0, none⟩), .int .i64 a1] w fun e w' => e = .returned (.int .i64 r1) ∧ IsS79 w0 w' g r2 r3 r4 r5 ∧ Below w0.heap.size w0 w' ∧ KeepBut w w' g none := by
 have HI0 := yM hI
 have HK := yM (KeepBut.refl w g none)
 have HL := yM hB.size
 clear hI
 have HW0 := yM hB.size
 have HB := yM hB
 clear hB
 have H : (T_run.l0 k a1 s0_0 s0_1 s0_2 s0_3) = some (r1, r2, r3, r4, r5) := h
 clear h
 have H' := yM H
 clear H
 go_enter Tryd.func65, Tryd.ntmps65
 go_wp2
 go_loopg [1] k (fun kq v1 w' => ∃ (x1_1 : Int), v1 = .int .i64 x1_1 ∧ Aside0 (T_run.l0 kq x1_1 s0_0 s0_1 s0_2 s0_3 = some (r1, r2, r3, r4, r5)) ∧ Aside0 (kq ≤ k) ∧ Aside0 (IsS79 w0 w' g s0_0 s0_1 s0_2 s0_3) ∧ Aside0 (KeepBut w w' g none) ∧ Aside0 (Below w0.heap.size w0 w'))
 case atStart => exact ⟨(a1), (by first | rfl | (simp; done) | (simp [*]; done)), H', ⟨Nat.le_refl _⟩, ⟨by repeat (first | (with_reducible first | exact HI0.out | apply wA | apply wN | apply wD | apply w_0 | apply w_1 | apply w_2 | apply w_3) | exact HI0.out)⟩, ⟨by repeat (first | (with_reducible first | exact HK.out | apply yK | apply zk | apply zl9 | apply zm) | exact HK.out)⟩, ⟨by repeat (first | (with_reducible first | exact HB.out | apply zA | apply zN | apply zD | refine zq9 ?_ (wG HI0.out)) | exact HB.out)⟩⟩
 case round =>
  clear H'
  try clear p2
  obtain ⟨x1_1, rfl, HA, HK1, HI0, HK, HB⟩ := hrel
  cases gk with
  | zero => exact absurd HA.out (by simp [T_run.l0])
  | succ k1 =>
   have H := HA.out
   clear HA
   simp only [T_run.l0] at H
   by_cases c3 : x1_1 < (s0_0.size : Int)
   ·rw [if_pos c3] at H
    have c3b0 : decide (x1_1 < (s0_0.size : Int)) = true := decide_eq_true c3
    clear c3
    by_cases c4 : 0 ≤ x1_1
    ·rw [if_pos c4] at H
     have c4b0 : decide (0 ≤ x1_1) = true := decide_eq_true c4
     clear c4
     by_cases c6 : (bt s0_0 x1_1) ≥ 48
     ·rw [if_pos c6] at H
      have c6b0 : decide (48 ≤ (bt s0_0 x1_1)) = true := decide_eq_true c6
      clear c6
      by_cases c8 : (bt s0_0 x1_1) ≤ 57
      ·rw [if_pos c8] at H
       have c8b0 : decide ((bt s0_0 x1_1) ≤ 57) = true := decide_eq_true c8
       clear c8
       have H' := yM H
       clear H
       obtain ⟨HGz9, hgz9⟩ := HI0.out
       have hcz9_0 := cellS79_0 HGz9
       have hcz9_1 := cellS79_1 HGz9
       have hcz9_2 := cellS79_2 HGz9
       have hcz9_3 := cellS79_3 HGz9
       have hfz9_0 := yF HGz9 0
       have hfz9_1 := yF HGz9 1
       have hfz9_2 := yF HGz9 2
       have hfz9_3 := yF HGz9 3
       clear HGz9 hgz9
       have p5 : 0 ≤ (x1_1 : Int) := yQ (by first | (with_reducible assumption) | assumption)
       have q5 : x1_1 < (s0_0.size : Int) := yQ (by first | (with_reducible assumption) | assumption)
       have hx5 := bt_at s0_0 x1_1
       replace p5 := eq_true p5
       replace q5 := eq_true q5
       have p7 : 0 ≤ (x1_1 : Int) := yQ (by first | (with_reducible assumption) | assumption)
       have q7 : x1_1 < (s0_0.size : Int) := yQ (by first | (with_reducible assumption) | assumption)
       have hx7 := bt_at s0_0 x1_1
       replace p7 := eq_true p7
       replace q7 := eq_true q7
       go_wp2
       go_roundg k1
       case measure => have := HK1.out; omega
       case rel => exact ⟨(wrap64 (x1_1 + 1)), (by first | rfl | (simp; done) | (simp [*]; done)), H', ⟨by have := HK1.out; omega⟩, ⟨by repeat (first | (with_reducible first | exact HI0.out | apply wA | apply wN | apply wD | apply w_0 | apply w_1 | apply w_2 | apply w_3) | exact HI0.out)⟩, ⟨by repeat (first | (with_reducible first | exact HK.out | apply yK | apply zk | apply zl9 | apply zm) | exact HK.out)⟩, ⟨by repeat (first | (with_reducible first | exact HB.out | apply zA | apply zN | apply zD | refine zq9 ?_ (wG HI0.out)) | exact HB.out)⟩⟩
      ·rw [if_neg c8] at H
       have c8b0 : decide ((bt s0_0 x1_1) ≤ 57) = false := decide_eq_false c8
       clear c8
       simp only [Option.some.injEq, Prod.mk.injEq] at H
       obtain ⟨rfl, rfl, rfl, rfl, rfl⟩ := H
       obtain ⟨HGz10, hgz10⟩ := HI0.out
       have hcz10_0 := cellS79_0 HGz10
       have hcz10_1 := cellS79_1 HGz10
       have hcz10_2 := cellS79_2 HGz10
       have hcz10_3 := cellS79_3 HGz10
       have hfz10_0 := yF HGz10 0
       have hfz10_1 := yF HGz10 1
       have hfz10_2 := yF HGz10 2
       have hfz10_3 := yF HGz10 3
       clear HGz10 hgz10
       have p5 : 0 ≤ (x1_1 : Int) := yQ (by first | (with_reducible assumption) | assumption)
       have q5 : x1_1 < (s0_0.size : Int) := yQ (by first | (with_reducible assumption) | assumption)
       have hx5 := bt_at s0_0 x1_1
       replace p5 := eq_true p5
       replace q5 := eq_true q5
       have p7 : 0 ≤ (x1_1 : Int) := yQ (by first | (with_reducible assumption) | assumption)
       have q7 : x1_1 < (s0_0.size : Int) := yQ (by first | (with_reducible assumption) | assumption)
       have hx7 := bt_at s0_0 x1_1
       replace p7 := eq_true p7
       replace q7 := eq_true q7
       go_wp2
       go_ret
       exact ⟨by first | rfl | (simp [errW_none, errW_some] <;> rfl) | (simp [*, errW_none, errW_some] <;> rfl), by repeat (first | (with_reducible first | exact HI0.out | apply wA | apply wN | apply wD | apply w_0 | apply w_1 | apply w_2 | apply w_3) | exact HI0.out), by repeat (first | (with_reducible first | exact HB.out | apply zA | apply zN | apply zD | refine zq9 ?_ (wG HI0.out)) | exact HB.out), by repeat (first | (with_reducible first | exact HK.out | apply yK | apply zk | apply zl9 | apply zm) | exact HK.out)⟩
     ·rw [if_neg c6] at H
      have c6b0 : decide (48 ≤ (bt s0_0 x1_1)) = false := decide_eq_false c6
      clear c6
      simp only [Option.some.injEq, Prod.mk.injEq] at H
      obtain ⟨rfl, rfl, rfl, rfl, rfl⟩ := H
      obtain ⟨HGz11, hgz11⟩ := HI0.out
      have hcz11_0 := cellS79_0 HGz11
      have hcz11_1 := cellS79_1 HGz11
      have hcz11_2 := cellS79_2 HGz11
      have hcz11_3 := cellS79_3 HGz11
      have hfz11_0 := yF HGz11 0
      have hfz11_1 := yF HGz11 1
      have hfz11_2 := yF HGz11 2
      have hfz11_3 := yF HGz11 3
      clear HGz11 hgz11
      have p5 : 0 ≤ (x1_1 : Int) := yQ (by first | (with_reducible assumption) | assumption)
      have q5 : x1_1 < (s0_0.size : Int) := yQ (by first | (with_reducible assumption) | assumption)
      have hx5 := bt_at s0_0 x1_1
      replace p5 := eq_true p5
      replace q5 := eq_true q5
      go_wp2
      go_ret
      exact ⟨by first | rfl | (simp [errW_none, errW_some] <;> rfl) | (simp [*, errW_none, errW_some] <;> rfl), by repeat (first | (with_reducible first | exact HI0.out | apply wA | apply wN | apply wD | apply w_0 | apply w_1 | apply w_2 | apply w_3) | exact HI0.out), by repeat (first | (with_reducible first | exact HB.out | apply zA | apply zN | apply zD | refine zq9 ?_ (wG HI0.out)) | exact HB.out), by repeat (first | (with_reducible first | exact HK.out | apply yK | apply zk | apply zl9 | apply zm) | exact HK.out)⟩
    ·rw [if_neg c4] at H
     exact absurd H (by simp)
   ·rw [if_neg c3] at H
    have c3b0 : decide (x1_1 < (s0_0.size : Int)) = false := decide_eq_false c3
    clear c3
    simp only [Option.some.injEq, Prod.mk.injEq] at H
    obtain ⟨rfl, rfl, rfl, rfl, rfl⟩ := H
    obtain ⟨HGz12, hgz12⟩ := HI0.out
    have hcz12_0 := cellS79_0 HGz12
    have hcz12_1 := cellS79_1 HGz12
    have hcz12_2 := cellS79_2 HGz12
    have hcz12_3 := cellS79_3 HGz12
    have hfz12_0 := yF HGz12 0
    have hfz12_1 := yF HGz12 1
    have hfz12_2 := yF HGz12 2
    have hfz12_3 := yF HGz12 3
    clear HGz12 hgz12
    go_wp2
    go_ret
    exact ⟨by first | rfl | (simp [errW_none, errW_some] <;> rfl) | (simp [*, errW_none, errW_some] <;> rfl), by repeat (first | (with_reducible first | exact HI0.out | apply wA | apply wN | apply wD | apply w_0 | apply w_1 | apply w_2 | apply w_3) | exact HI0.out), by repeat (first | (with_reducible first | exact HB.out | apply zA | apply zN | apply zD | refine zq9 ?_ (wG HI0.out)) | exact HB.out), by repeat (first | (with_reducible first | exact HK.out | apply yK | apply zk | apply zl9 | apply zm) | exact HK.out)⟩
end Go.Proofs.YtbpiahpkbapijaaDoor.J
end
