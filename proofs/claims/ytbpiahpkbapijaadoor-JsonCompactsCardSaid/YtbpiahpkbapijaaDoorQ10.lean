/- Lemmas and walks for the claim; no condition beyond what each states. -/
import Derived.Test.YtbpiahpkbapijaaDoorQ8
import Derived.WalkLawsBesides
import Derived.Maps.AppendAt
import Derived.ArgAppend
import Derived.Deep.AppendLies
import Derived.Lib.FrozenHead2
section
namespace Go.Proofs.YtbpiahpkbapijaaDoor.J
open Go.RowKit Go.Proofs.YtbpiahpkbapijaaDoorW.PrintWords Go.Proofs.YtbpiahpkbapijaaDoorW.PrintLast Go.Proofs.YtbpiahpkbapijaaDoorW.PrintMore
set_option linter.unusedVariables false
set_option linter.unusedSimpArgs false
theorem info67 : (Tryd.prog.info? 67).map (fun i => (i.zero, i.size, i.bytes)) = some (some (.agg #[(.int .i64 0), (.int .i64 0), (.int .i64 0), (.string ⟨#[]⟩), (.slice none 0 0), (.slice none 0 0)]), 6, 88) := by kernel_rfl
mutual
def T_inside.j0 : Nat → Int → Int → ByteArray → Int → Int → Int → Int → Int → Int → ByteArray → Option (Int × Int × Int × ByteArray × (List (S67)) × (List (S67)) × ByteArray × Int × Int × Int)
 | 0, _, _, _, _, _, _, _, _, _, _ => none
 | k + 1, x2, x8, x1000, x1001, x1002, x1003, x168000, x168001, x168002, x168003 => T_inside.l0 k x2 x8 true x1000 (wrap64 (x1001 + 1)) x1002 x1003 x168000 x168001 x168002 x168003 ([] : List (S67)) ([] : List (S67))
def T_inside.l0 : Nat → Int → Int → Bool → ByteArray → Int → Int → Int → Int → Int → Int → ByteArray → List (S67) → List (S67) → Option (Int × Int × Int × ByteArray × (List (S67)) × (List (S67)) × ByteArray × Int × Int × Int)
 | 0, _, _, _, _, _, _, _, _, _, _, _, _, _ => none
 | k + 1, x2, x8, x9, x1000, x1001, x1002, x1003, x168000, x168001, x168002, x168003, x168004, x168005 => if x1002 = 0 then ((T_next.f k x1000 x1001 x1002 x1003).bind fun bt168 => (if bt168.1 = x8 then (some (x168000, x168001, wrap64 (bt168.2.2.1 + 1), x168003, x168004, x168005, bt168.2.1, wrap64 (bt168.2.2.1 + 1), bt168.2.2.2.1, bt168.2.2.2.2)) else (if x9 = true then (T_inside.j2 k x2 x8 bt168.1 bt168.2.1 bt168.2.2.1 bt168.2.2.2.1 bt168.2.2.2.2 x168000 x168001 x168002 x168003 x168004 x168005) else ((T_sign.f k bt168.2.1 bt168.2.2.1 bt168.2.2.2.1 bt168.2.2.2.2 44).bind fun bt173 => ((T_next.f k bt173.1 bt173.2.1 bt173.2.2.1 bt173.2.2.2).bind fun bt177 => (T_inside.j2 k x2 x8 bt177.1 bt177.2.1 bt177.2.2.1 bt177.2.2.2.1 bt177.2.2.2.2 x168000 x168001 x168002 x168003 x168004 x168005)))))) else (some (x168000, x168001, x168002, x168003, x168004, x168005, x1000, x1001, x1002, x1003))
def T_inside.j2 : Nat → Int → Int → Int → ByteArray → Int → Int → Int → Int → Int → Int → ByteArray → List (S67) → List (S67) → Option (Int × Int × Int × ByteArray × (List (S67)) × (List (S67)) × ByteArray × Int × Int × Int)
 | 0, _, _, _, _, _, _, _, _, _, _, _, _, _ => none
 | k + 1, x2, x8, x10, x1000, x1001, x1002, x1003, x168000, x168001, x168002, x168003, x168004, x168005 => if x168000 = 1 then (if x10 = 34 then ((T_name.f k x1000 x1001 x1002 x1003).bind fun bt186 => (if x168004.length < 1599289640401 then ((some (x168004 ++ [(⟨bt186.1, bt186.2.1, bt186.2.2.1, bt186.2.2.2.1, bt186.2.2.2.2.1, bt186.2.2.2.2.2.1⟩ : S67)] : List (S67))).bind fun y200 => (if bt186.2.2.2.2.2.2.2.2.1 = 0 then ((T_value.f k bt186.2.2.2.2.2.2.1 bt186.2.2.2.2.2.2.2.1 bt186.2.2.2.2.2.2.2.2.1 bt186.2.2.2.2.2.2.2.2.2 x2).bind fun bt203 => (if x168005.length < 1599289640401 then (T_inside.l0 k x2 x8 false bt203.2.2.2.2.2.2.1 bt203.2.2.2.2.2.2.2.1 bt203.2.2.2.2.2.2.2.2.1 bt203.2.2.2.2.2.2.2.2.2 x168000 x168001 x168002 x168003 y200 (x168005 ++ [(⟨bt203.1, bt203.2.1, bt203.2.2.1, bt203.2.2.2.1, bt203.2.2.2.2.1, bt203.2.2.2.2.2.1⟩ : S67)])) else (none))) else (T_inside.l0 k x2 x8 false bt186.2.2.2.2.2.2.1 bt186.2.2.2.2.2.2.2.1 bt186.2.2.2.2.2.2.2.2.1 bt186.2.2.2.2.2.2.2.2.2 x168000 x168001 x168002 x168003 y200 x168005))) else (none))) else ((T_fail.f x1000 x1001 x1002 x1003 120 x1001).bind fun bt182 => (some (x168000, x168001, x168002, x168003, x168004, x168005, bt182.1, bt182.2.1, bt182.2.2.1, bt182.2.2.2)))) else (if x1002 = 0 then ((T_value.f k x1000 x1001 x1002 x1003 x2).bind fun bt220 => (if x168005.length < 1599289640401 then (T_inside.l0 k x2 x8 false bt220.2.2.2.2.2.2.1 bt220.2.2.2.2.2.2.2.1 bt220.2.2.2.2.2.2.2.2.1 bt220.2.2.2.2.2.2.2.2.2 x168000 x168001 x168002 x168003 x168004 (x168005 ++ [(⟨bt220.1, bt220.2.1, bt220.2.2.1, bt220.2.2.2.1, bt220.2.2.2.2.1, bt220.2.2.2.2.2.1⟩ : S67)])) else (none))) else (T_inside.l0 k x2 x8 false x1000 x1001 x1002 x1003 x168000 x168001 x168002 x168003 x168004 x168005))
def T_value.f : Nat → ByteArray → Int → Int → Int → Int → Option (Int × Int × Int × ByteArray × (List (S67)) × (List (S67)) × ByteArray × Int × Int × Int)
 | 0, _, _, _, _, _ => none
 | k + 1, s0, s1, s2, s3, op => (T_next.f k s0 s1 s2 s3).bind fun b => (if b.1 = 123 then (if op ≥ 200 then ((T_fail.f b.2.1 b.2.2.1 b.2.2.2.1 b.2.2.2.2 4 b.2.2.1).bind fun q => (some (0, 0, 0, (⟨#[]⟩ : ByteArray), ([] : List (S67)), ([] : List (S67)), q.1, q.2.1, q.2.2.1, q.2.2.2))) else (T_inside.j0 k (wrap64 (op + 1)) 125 b.2.1 b.2.2.1 b.2.2.2.1 b.2.2.2.2 1 b.2.2.1 0 (⟨#[]⟩ : ByteArray))) else if b.1 = 91 then (if op ≥ 200 then ((T_fail.f b.2.1 b.2.2.1 b.2.2.2.1 b.2.2.2.2 4 b.2.2.1).bind fun q => (some (0, 0, 0, (⟨#[]⟩ : ByteArray), ([] : List (S67)), ([] : List (S67)), q.1, q.2.1, q.2.2.1, q.2.2.2))) else (T_inside.j0 k (wrap64 (op + 1)) 93 b.2.1 b.2.2.1 b.2.2.2.1 b.2.2.2.2 2 b.2.2.1 0 (⟨#[]⟩ : ByteArray))) else if b.1 = 34 then (T_text.f k b.2.1 b.2.2.1 b.2.2.2.1 b.2.2.2.2) else if b.1 = 116 then (T_word.f b.2.1 b.2.2.1 b.2.2.2.1 b.2.2.2.2 (⟨#[116, 114, 117, 101]⟩ : ByteArray) 5) else if b.1 = 102 then (T_word.f b.2.1 b.2.2.1 b.2.2.2.1 b.2.2.2.2 (⟨#[102, 97, 108, 115, 101]⟩ : ByteArray) 6) else if b.1 = 110 then (T_word.f b.2.1 b.2.2.1 b.2.2.2.1 b.2.2.2.2 (⟨#[110, 117, 108, 108]⟩ : ByteArray) 7) else ((T_number.f k b.2.1 b.2.2.1 b.2.2.2.1 b.2.2.2.2 b.2.2.1).bind fun e => (if e.1 = e.2.2.1 then ((T_fail.f e.2.1 e.2.2.1 e.2.2.2.1 e.2.2.2.2 120 e.2.2.1).bind fun q => (some (4, e.2.2.1, e.1, (⟨#[]⟩ : ByteArray), ([] : List (S67)), ([] : List (S67)), q.1, q.2.1, q.2.2.1, q.2.2.2))) else (if 0 ≤ e.2.2.1 then (if e.2.2.1 ≤ e.1 then (if e.1 ≤ (e.2.1.size : Int) then (some (4, e.2.2.1, e.1, e.2.1.extract (e.2.2.1 : Int).toNat (e.1 : Int).toNat, ([] : List (S67)), ([] : List (S67)), e.2.1, e.1, e.2.2.2.1, e.2.2.2.2)) else (none)) else (none)) else (none)))))
end
def T_inside.f (k : Nat) (s0_0 : ByteArray) (s0_1 : Int) (s0_2 : Int) (s0_3 : Int) (a1 : Int) (a2 : Int) : Option (Int × Int × Int × ByteArray × (List (S67)) × (List (S67)) × ByteArray × Int × Int × Int) := if a1 = 91 then (T_inside.j0 k a2 93 s0_0 s0_1 s0_2 s0_3 2 s0_1 0 (⟨#[]⟩ : ByteArray)) else (T_inside.j0 k a2 125 s0_0 s0_1 s0_2 s0_3 1 s0_1 0 (⟨#[]⟩ : ByteArray))
def T_inside.T22 : Bool × List (List Nat × List Nat) := (true, [([], []), ([0], [0]), ([], []), ([2], [2]), ([3], [3]), ([1, 4, 3], [1, 4]), ([0, 1, 2, 3, 4, 5], []), ([6, 5, 5, 0, 1, 2, 3, 4, 5], [5, 6])])
def T_inside.B22 : List Nat := [0, 1, 0, 4, 12, 31, 63, 127]
theorem T_inside.tab22 : rtab .any (opsOf Tryd.f44 22) = T_inside.T22 := by kernel_rfl
theorem T_inside.bits22 : waitsOk T_inside.T22.2 T_inside.B22 = true := by kernel_rfl
def T_inside.T24 : Bool × List (List Nat × List Nat) := (true, [([], []), ([0], [0]), ([], []), ([], []), ([2, 3], [2, 3]), ([4], [4]), ([1, 5, 4], [1, 5]), ([0, 1, 2, 3, 4, 5, 6], []), ([7, 6, 6, 0, 1, 2, 3, 4, 5, 6], [6, 7])])
def T_inside.B24 : List Nat := [0, 1, 0, 0, 12, 28, 63, 127, 255]
theorem T_inside.tab24 : rtab .any (opsOf Tryd.f44 24) = T_inside.T24 := by kernel_rfl
theorem T_inside.bits24 : waitsOk T_inside.T24.2 T_inside.B24 = true := by kernel_rfl
abbrev VC (op : Int) : Prop := ∀ (k : Nat) (g : Nat) (s0_0 : ByteArray) (s0_1 : Int) (s0_2 : Int) (s0_3 : Int) (r1 : Int) (r2 : Int) (r3 : Int) (r4 : ByteArray) (r5 : List (S67)) (r6 : List (S67)) (r7 : ByteArray) (r8 : Int) (r9 : Int) (r10 : Int) (w0 w : World) (hI : IsS79 w0 w g s0_0 s0_1 s0_2 s0_3) (hB : Below w0.heap.size w0 w) (h : T_value.f k s0_0 s0_1 s0_2 s0_3 op = some (r1, r2, r3, r4, r5, r6, r7, r8, r9, r10)),
  Calls Tryd.prog 32 #[.pointer (some ⟨g, 0, none⟩), .int .i64 op] w fun e w' => ∃ v4_ v5_ : Value, e = .returned (.agg #[.int .i64 r1, .int .i64 r2, .int .i64 r3, .string r4, v4_, v5_]) ∧ Kd.R k67 67 w' w.heap.size (fun k_ => some k_ ≠ (v5_ : Value).ownBlock) v4_ r5 ∧ Kd.R k67 67 w' w.heap.size (fun k_ => some k_ ≠ (v4_ : Value).ownBlock) v5_ r6 ∧ IsS79 w0 w' g r7 r8 r9 r10 ∧ Below w0.heap.size w0 w' ∧ KeepBut w w' g none
set_option maxHeartbeats 8000000 in
set_option maxRecDepth 100000 in
theorem T_inside.calls (k : Nat) (g : Nat) (s0_0 : ByteArray) (s0_1 : Int) (s0_2 : Int) (s0_3 : Int) (a1 : Int) (a2 : Int) (r1 : Int) (r2 : Int) (r3 : Int) (r4 : ByteArray) (r5 : List (S67)) (r6 : List (S67)) (r7 : ByteArray) (r8 : Int) (r9 : Int) (r10 : Int) (w0 w : World) (hVC : VC a2) (hI : IsS79 w0 w g s0_0 s0_1 s0_2 s0_3) (hB : Below w0.heap.size w0 w) (h : T_inside.f k s0_0 s0_1 s0_2 s0_3 a1 a2 = some (r1, r2, r3, r4, r5, r6, r7, r8, r9, r10)) :
  Calls Tryd.prog 44 #[.pointer (some ⟨g, 0, none⟩), .int .u8 a1, .int .i64 a2] w fun e w' => ∃ v4_ v5_ : Value, e = .returned (.agg #[.int .i64 r1, .int .i64 r2, .int .i64 r3, .string r4, v4_, v5_]) ∧ Kd.R k67 67 w' w.heap.size (fun k_ => some k_ ≠ (v5_ : Value).ownBlock) v4_ r5 ∧ Kd.R k67 67 w' w.heap.size (fun k_ => some k_ ≠ (v4_ : Value).ownBlock) v5_ r6 ∧ IsS79 w0 w' g r7 r8 r9 r10 ∧ Below w0.heap.size w0 w' ∧ KeepBut w w' g none := by
 have hu67 := Tryd.underlying67
 have HV := yM hVC
 clear hVC
 have HI0 := yM hI
 have HK := yM (KeepBut.refl w g none)
 have HL := yM hB.size
 clear hI
 have HW0 := yM hB.size
 have HB := yM hB
 clear hB
 have H : (if a1 = 91 then (T_inside.j0 k a2 93 s0_0 s0_1 s0_2 s0_3 2 s0_1 0 (⟨#[]⟩ : ByteArray)) else (T_inside.j0 k a2 125 s0_0 s0_1 s0_2 s0_3 1 s0_1 0 (⟨#[]⟩ : ByteArray))) = some (r1, r2, r3, r4, r5, r6, r7, r8, r9, r10) := h
 clear h
 have HC4 := yM H
 clear H
 go_enter Tryd.func44, Tryd.ntmps44
 go_upto_if 17 with (first | ((with_reducible refine gate_dst (N := 6) rfl ?_); refine box_event ?hg (N := 6) ?hd (cs := #[.int .i64 0, .int .i64 0, .int .i64 0, .string (⟨#[]⟩ : ByteArray), .slice none 0 0, .slice none 0 0]) (t := 67) ?hr ?_; (case hd => rfl); (case hg => rfl); (case hr => first | (go_simp; done) | (go_simp; rfl)); intro gb166 hg w5 hbox hb; have n0_ := yM (IsS79.below (by repeat (first | (with_reducible first | exact HI0.out | apply wA | apply wN | apply wD | apply w_0 | apply w_1 | apply w_2 | apply w_3) | exact HI0.out)) hb); have n1_ := yM (KeepBut.trans (by repeat (first | (with_reducible first | exact HK.out | apply yK | apply zk | apply zl9 | apply zm) | exact HK.out)) (KeepBut.of_below hb g none) (.inl rfl)); have n2_ := yM (below_step (by repeat (first | (with_reducible first | exact HB.out | apply zA | apply zN | apply zD | refine zq9 ?_ (wG HI0.out)) | exact HB.out)) hb); have n3_ := yM (hbox); have n4_ := yM ((by rw [hg]; exact (keep_size (w := w) (g := g) (row := none) (by repeat (first | (with_reducible first | exact HK.out | apply yK | apply zk | apply zl9 | apply zm) | exact HK.out))) : w.heap.size ≤ gb166)); have n5_ := yM ((Nat.le_trans HW0.out (by rw [hg]; exact (keep_size (w := w) (g := g) (row := none) (by repeat (first | (with_reducible first | exact HK.out | apply yK | apply zk | apply zl9 | apply zm) | exact HK.out))) : w.heap.size ≤ gb166) : w0.heap.size ≤ gb166)); have n6_ := yM ((by rw [hg]; exact Nat.ne_of_lt (IsS79.lt (show IsS79 w0 _ g s0_0 s0_1 s0_2 s0_3 from by repeat (first | (with_reducible first | exact HI0.out | apply wA | apply wN | apply wD | apply w_0 | apply w_1 | apply w_2 | apply w_3) | exact HI0.out))) : g ≠ gb166)); have n7_ := yM ((by rw [hg]; exact Nat.ne_of_gt (IsS79.lt (show IsS79 w0 _ g s0_0 s0_1 s0_2 s0_3 from by repeat (first | (with_reducible first | exact HI0.out | apply wA | apply wN | apply wD | apply w_0 | apply w_1 | apply w_2 | apply w_3) | exact HI0.out))) : gb166 ≠ g)); clear HI0; clear HK; clear HB; have HI0 := n0_; have HK := n1_; have HB := n2_; have BK166 := n3_; have GW166 := n4_; have GE166 := n5_; have NB0_166 := n6_; have NB166_0 := n7_; clear n0_ n1_ n2_ n3_ n4_ n5_ n6_ n7_; clear hb hbox hg; obtain ⟨HGz6, hgz6⟩ := HI0.out; have hcz6_0 := cellS79_0 HGz6; have hcz6_1 := cellS79_1 HGz6; have hcz6_2 := cellS79_2 HGz6; have hcz6_3 := cellS79_3 HGz6; have hfz6_0 := yF HGz6 0; have hfz6_1 := yF HGz6 1; have hfz6_2 := yF HGz6 2; have hfz6_3 := yF HGz6 3; clear HGz6 hgz6) | ((with_reducible refine gate_dst (N := 7) rfl ?_); refine box_event ?hg (N := 7) ?hd (cs := #[.int .i64 0, .int .i64 0, .int .i64 0, .string (⟨#[]⟩ : ByteArray), .slice none 0 0, .slice none 0 0]) (t := 67) ?hr ?_; (case hd => rfl); (case hg => rfl); (case hr => first | (go_simp; done) | (go_simp; rfl)); intro gb167 hg w7 hbox hb; have n0_ := yM (IsS79.below (by repeat (first | (with_reducible first | exact HI0.out | apply wA | apply wN | apply wD | apply w_0 | apply w_1 | apply w_2 | apply w_3 | refine wR ?_ NB0_166.out _) | exact HI0.out)) hb); have n1_ := yM (blk_below (g := gb166) (o := .cells #[.int .i64 0, .int .i64 0, .int .i64 0, .string (⟨#[]⟩ : ByteArray), .slice none 0 0, .slice none 0 0] 67 (0, 0)) (by (with_reducible repeat (first | refine yN ?_ _ | refine yD ?_ | refine yA ?_ _)); exact BK166.out) hb); have n2_ := yM (KeepBut.trans (by repeat (first | (with_reducible first | exact HK.out | apply yK | apply zk | apply zl9 | apply zm | refine keep_far ?_ GW166.out _) | exact HK.out)) (KeepBut.of_below hb g none) (.inl rfl)); have n3_ := yM (below_step (by repeat (first | (with_reducible first | exact HB.out | apply zA | apply zN | apply zD | refine zq9 ?_ (wG HI0.out) | refine zq9 ?_ GE166.out) | exact HB.out)) hb); have n4_ := yM (hbox); have n5_ := yM ((by rw [hg]; exact (keep_size (w := w) (g := g) (row := none) (by repeat (first | (with_reducible first | exact HK.out | apply yK | apply zk | apply zl9 | apply zm | refine keep_far ?_ GW166.out _) | exact HK.out))) : w.heap.size ≤ gb167)); have n6_ := yM ((Nat.le_trans HW0.out (by rw [hg]; exact (keep_size (w := w) (g := g) (row := none) (by repeat (first | (with_reducible first | exact HK.out | apply yK | apply zk | apply zl9 | apply zm | refine keep_far ?_ GW166.out _) | exact HK.out))) : w.heap.size ≤ gb167) : w0.heap.size ≤ gb167)); have n7_ := yM ((by rw [hg]; exact Nat.ne_of_lt (blk_lt (g := gb166) (o := .cells #[.int .i64 0, .int .i64 0, .int .i64 0, .string (⟨#[]⟩ : ByteArray), .slice none 0 0, .slice none 0 0] 67 (0, 0)) (by (with_reducible repeat (first | refine yN ?_ _ | refine yD ?_ | refine yA ?_ _)); exact BK166.out)) : gb166 ≠ gb167)); have n8_ := yM ((by rw [hg]; exact Nat.ne_of_gt (blk_lt (g := gb166) (o := .cells #[.int .i64 0, .int .i64 0, .int .i64 0, .string (⟨#[]⟩ : ByteArray), .slice none 0 0, .slice none 0 0] 67 (0, 0)) (by (with_reducible repeat (first | refine yN ?_ _ | refine yD ?_ | refine yA ?_ _)); exact BK166.out)) : gb167 ≠ gb166)); have n9_ := yM ((by rw [hg]; exact Nat.ne_of_lt (IsS79.lt (show IsS79 w0 _ g s0_0 s0_1 s0_2 s0_3 from by repeat (first | (with_reducible first | exact HI0.out | apply wA | apply wN | apply wD | apply w_0 | apply w_1 | apply w_2 | apply w_3 | refine wR ?_ NB0_166.out _) | exact HI0.out))) : g ≠ gb167)); have n10_ := yM ((by rw [hg]; exact Nat.ne_of_gt (IsS79.lt (show IsS79 w0 _ g s0_0 s0_1 s0_2 s0_3 from by repeat (first | (with_reducible first | exact HI0.out | apply wA | apply wN | apply wD | apply w_0 | apply w_1 | apply w_2 | apply w_3 | refine wR ?_ NB0_166.out _) | exact HI0.out))) : gb167 ≠ g)); clear HI0; clear BK166; clear HK; clear HB; have HI0 := n0_; have BK166 := n1_; have HK := n2_; have HB := n3_; have BK167 := n4_; have GW167 := n5_; have GE167 := n6_; have NB166_167 := n7_; have NB167_166 := n8_; have NB0_167 := n9_; have NB167_0 := n10_; clear n0_ n1_ n2_ n3_ n4_ n5_ n6_ n7_ n8_ n9_ n10_; clear hb hbox hg; have hnb8 := NB167_166.out; have hnc8 := NB166_167.out; have hnb9 := NB167_0.out; have hnc9 := NB0_167.out; have hcz10_0 : w7.cell? ⟨gb167, 0, none⟩ = some (.int .i64 0) := (yC BK167.out 0).trans rfl; have hcz10_1 : w7.cell? ⟨gb167, 1, none⟩ = some (.int .i64 0) := (yC BK167.out 1).trans rfl; have hcz10_2 : w7.cell? ⟨gb167, 2, none⟩ = some (.int .i64 0) := (yC BK167.out 2).trans rfl; have hcz10_3 : w7.cell? ⟨gb167, 3, none⟩ = some (.string (⟨#[]⟩ : ByteArray)) := (yC BK167.out 3).trans rfl; have hcz10_4 : w7.cell? ⟨gb167, 4, none⟩ = some (.slice none 0 0) := (yC BK167.out 4).trans rfl; have hcz10_5 : w7.cell? ⟨gb167, 5, none⟩ = some (.slice none 0 0) := (yC BK167.out 5).trans rfl; have hfz10_0 := yF BK167.out 0; have hfz10_1 := yF BK167.out 1; have hfz10_2 := yF BK167.out 2; have hfz10_3 := yF BK167.out 3; have hfz10_4 := yF BK167.out 4; have hfz10_5 := yF BK167.out 5))
 (try simp only [Act.put, yX, yY, yZ])
 go_cut [8] (fun v8 wc => ∃ (kq : Nat) (x8_3 : Int) (x168000_3 : Int), v8 = .int .u8 x8_3 ∧ Aside0 (T_inside.j0 kq a2 x8_3 s0_0 s0_1 s0_2 s0_3 x168000_3 s0_1 0 (⟨#[]⟩ : ByteArray) = some (r1, r2, r3, r4, r5, r6, r7, r8, r9, r10)) ∧ Aside0 (kq ≤ k) ∧ Aside0 (wc.heap[gb166]? = some (.cells #[.int .i64 0, .int .i64 0, .int .i64 0, .string (⟨#[]⟩ : ByteArray), (.slice none 0 0), (.slice none 0 0)] 67 (0, 0))) ∧ Aside0 (wc.heap[gb167]? = some (.cells #[.int .i64 x168000_3, .int .i64 s0_1, .int .i64 0, .string (⟨#[]⟩ : ByteArray), (.slice none 0 0), (.slice none 0 0)] 67 (0, 0))) ∧ Aside0 (IsS79 w0 wc g s0_0 s0_1 s0_2 s0_3) ∧ Aside0 (KeepBut w wc g none) ∧ Aside0 (Below w0.heap.size w0 wc))
 case first =>
  have H := HC4.out
  clear HC4
  by_cases c11 : a1 = 91
  ·rw [if_pos c11] at H
   have c11b0 : (a1 == 91) = true := beq_iff_eq.mpr c11
   have c11b1 : (a1 != 91) = false := bne_eq_false_iff_eq.mpr c11
   clear c11
   (first | rw [c11b0] | (simp only [i64_w, i32_w]; rw [c11b0]) | skip)
   have H' := yM H
   clear H
   have hnb12 := NB167_166.out
   have hnc12 := NB166_167.out
   have hnb13 := NB167_0.out
   have hnc13 := NB0_167.out
   have hcz14_0 : w7.cell? ⟨gb167, 0, none⟩ = some (.int .i64 0) := (yC BK167.out 0).trans rfl
   have hcz14_1 : w7.cell? ⟨gb167, 1, none⟩ = some (.int .i64 0) := (yC BK167.out 1).trans rfl
   have hcz14_2 : w7.cell? ⟨gb167, 2, none⟩ = some (.int .i64 0) := (yC BK167.out 2).trans rfl
   have hcz14_3 : w7.cell? ⟨gb167, 3, none⟩ = some (.string (⟨#[]⟩ : ByteArray)) := (yC BK167.out 3).trans rfl
   have hcz14_4 : w7.cell? ⟨gb167, 4, none⟩ = some (.slice none 0 0) := (yC BK167.out 4).trans rfl
   have hcz14_5 : w7.cell? ⟨gb167, 5, none⟩ = some (.slice none 0 0) := (yC BK167.out 5).trans rfl
   have hfz14_0 := yF BK167.out 0
   have hfz14_1 := yF BK167.out 1
   have hfz14_2 := yF BK167.out 2
   have hfz14_3 := yF BK167.out 3
   have hfz14_4 := yF BK167.out 4
   have hfz14_5 := yF BK167.out 5
   go_wp2
   go_meet
   case rel => exact ⟨_, (93), (2), (by first | rfl | (simp; done) | (simp [*]; done)), H', ⟨by first | omega | exact Nat.le_refl _⟩, ⟨by (with_reducible repeat (first | refine yN ?_ _ | refine yD ?_ | refine yA ?_ _)); refine yR ?_ NB166_167.out _; (with_reducible repeat (first | refine yN ?_ _ | refine yD ?_ | refine yA ?_ _)); refine yR ?_ NB166_167.out _; (with_reducible repeat (first | refine yN ?_ _ | refine yD ?_ | refine yA ?_ _)); refine yR ?_ NB166_167.out _; (with_reducible repeat (first | refine yN ?_ _ | refine yD ?_ | refine yA ?_ _)); refine yR ?_ NB166_167.out _; (with_reducible repeat (first | refine yN ?_ _ | refine yD ?_ | refine yA ?_ _)); refine yR ?_ NB166_167.out _; (with_reducible repeat (first | refine yN ?_ _ | refine yD ?_ | refine yA ?_ _)); refine yR ?_ NB166_167.out _; (with_reducible repeat (first | refine yN ?_ _ | refine yD ?_ | refine yA ?_ _)); refine yR ?_ NB166_167.out _; (with_reducible repeat (first | refine yN ?_ _ | refine yD ?_ | refine yA ?_ _)); exact BK166.out⟩, ⟨by (with_reducible repeat (first | refine yN ?_ _ | refine yD ?_ | refine yA ?_ _)); refine blk_put (cs := #[.int .i64 1, .int .i64 s0_1, .int .i64 0, .string (⟨#[]⟩ : ByteArray), .slice none 0 0, .slice none 0 0]) ?_ 0 _ rfl; (with_reducible repeat (first | refine yN ?_ _ | refine yD ?_ | refine yA ?_ _)); refine blk_put (cs := #[.int .i64 1, .int .i64 s0_1, .int .i64 0, .string (⟨#[]⟩ : ByteArray), .slice none 0 0, .slice none 0 0]) ?_ 5 _ rfl; (with_reducible repeat (first | refine yN ?_ _ | refine yD ?_ | refine yA ?_ _)); refine blk_put (cs := #[.int .i64 1, .int .i64 s0_1, .int .i64 0, .string (⟨#[]⟩ : ByteArray), .slice none 0 0, .slice none 0 0]) ?_ 4 _ rfl; (with_reducible repeat (first | refine yN ?_ _ | refine yD ?_ | refine yA ?_ _)); refine blk_put (cs := #[.int .i64 1, .int .i64 s0_1, .int .i64 0, .string (⟨#[]⟩ : ByteArray), .slice none 0 0, .slice none 0 0]) ?_ 3 _ rfl; (with_reducible repeat (first | refine yN ?_ _ | refine yD ?_ | refine yA ?_ _)); refine blk_put (cs := #[.int .i64 1, .int .i64 s0_1, .int .i64 0, .string (⟨#[]⟩ : ByteArray), .slice none 0 0, .slice none 0 0]) ?_ 2 _ rfl; (with_reducible repeat (first | refine yN ?_ _ | refine yD ?_ | refine yA ?_ _)); refine blk_put (cs := #[.int .i64 1, .int .i64 0, .int .i64 0, .string (⟨#[]⟩ : ByteArray), .slice none 0 0, .slice none 0 0]) ?_ 1 _ rfl; (with_reducible repeat (first | refine yN ?_ _ | refine yD ?_ | refine yA ?_ _)); refine blk_put (cs := #[.int .i64 0, .int .i64 0, .int .i64 0, .string (⟨#[]⟩ : ByteArray), .slice none 0 0, .slice none 0 0]) ?_ 0 _ rfl; (with_reducible repeat (first | refine yN ?_ _ | refine yD ?_ | refine yA ?_ _)); exact BK167.out⟩, ⟨by repeat (first | (with_reducible first | exact HI0.out | apply wA | apply wN | apply wD | apply w_0 | apply w_1 | apply w_2 | apply w_3 | refine wR ?_ NB0_166.out _ | refine wR ?_ NB0_167.out _) | exact HI0.out)⟩, ⟨by repeat (first | (with_reducible first | exact HK.out | apply yK | apply zk | apply zl9 | apply zm | refine keep_far ?_ GW166.out _ | refine keep_far ?_ GW167.out _) | exact HK.out)⟩, ⟨by repeat (first | (with_reducible first | exact HB.out | apply zA | apply zN | apply zD | refine zq9 ?_ (wG HI0.out) | refine zq9 ?_ GE166.out | refine zq9 ?_ GE167.out) | exact HB.out)⟩⟩
  ·rw [if_neg c11] at H
   have c11b0 : (a1 == 91) = false := yB c11
   have c11b1 : (a1 != 91) = true := bne_iff_ne.mpr c11
   (first | rw [c11b0] | (simp only [i64_w, i32_w]; rw [c11b0]) | skip)
   have H' := yM H
   clear H
   go_wp2
   go_meet
   case rel => exact ⟨_, (125), (1), (by first | rfl | (simp; done) | (simp [*]; done)), H', ⟨by first | omega | exact Nat.le_refl _⟩, ⟨by (with_reducible repeat (first | refine yN ?_ _ | refine yD ?_ | refine yA ?_ _)); refine yR ?_ NB166_167.out _; (with_reducible repeat (first | refine yN ?_ _ | refine yD ?_ | refine yA ?_ _)); refine yR ?_ NB166_167.out _; (with_reducible repeat (first | refine yN ?_ _ | refine yD ?_ | refine yA ?_ _)); refine yR ?_ NB166_167.out _; (with_reducible repeat (first | refine yN ?_ _ | refine yD ?_ | refine yA ?_ _)); refine yR ?_ NB166_167.out _; (with_reducible repeat (first | refine yN ?_ _ | refine yD ?_ | refine yA ?_ _)); refine yR ?_ NB166_167.out _; (with_reducible repeat (first | refine yN ?_ _ | refine yD ?_ | refine yA ?_ _)); refine yR ?_ NB166_167.out _; (with_reducible repeat (first | refine yN ?_ _ | refine yD ?_ | refine yA ?_ _)); exact BK166.out⟩, ⟨by (with_reducible repeat (first | refine yN ?_ _ | refine yD ?_ | refine yA ?_ _)); refine blk_put (cs := #[.int .i64 1, .int .i64 s0_1, .int .i64 0, .string (⟨#[]⟩ : ByteArray), .slice none 0 0, .slice none 0 0]) ?_ 5 _ rfl; (with_reducible repeat (first | refine yN ?_ _ | refine yD ?_ | refine yA ?_ _)); refine blk_put (cs := #[.int .i64 1, .int .i64 s0_1, .int .i64 0, .string (⟨#[]⟩ : ByteArray), .slice none 0 0, .slice none 0 0]) ?_ 4 _ rfl; (with_reducible repeat (first | refine yN ?_ _ | refine yD ?_ | refine yA ?_ _)); refine blk_put (cs := #[.int .i64 1, .int .i64 s0_1, .int .i64 0, .string (⟨#[]⟩ : ByteArray), .slice none 0 0, .slice none 0 0]) ?_ 3 _ rfl; (with_reducible repeat (first | refine yN ?_ _ | refine yD ?_ | refine yA ?_ _)); refine blk_put (cs := #[.int .i64 1, .int .i64 s0_1, .int .i64 0, .string (⟨#[]⟩ : ByteArray), .slice none 0 0, .slice none 0 0]) ?_ 2 _ rfl; (with_reducible repeat (first | refine yN ?_ _ | refine yD ?_ | refine yA ?_ _)); refine blk_put (cs := #[.int .i64 1, .int .i64 0, .int .i64 0, .string (⟨#[]⟩ : ByteArray), .slice none 0 0, .slice none 0 0]) ?_ 1 _ rfl; (with_reducible repeat (first | refine yN ?_ _ | refine yD ?_ | refine yA ?_ _)); refine blk_put (cs := #[.int .i64 0, .int .i64 0, .int .i64 0, .string (⟨#[]⟩ : ByteArray), .slice none 0 0, .slice none 0 0]) ?_ 0 _ rfl; (with_reducible repeat (first | refine yN ?_ _ | refine yD ?_ | refine yA ?_ _)); exact BK167.out⟩, ⟨by repeat (first | (with_reducible first | exact HI0.out | apply wA | apply wN | apply wD | apply w_0 | apply w_1 | apply w_2 | apply w_3 | refine wR ?_ NB0_166.out _ | refine wR ?_ NB0_167.out _) | exact HI0.out)⟩, ⟨by repeat (first | (with_reducible first | exact HK.out | apply yK | apply zk | apply zl9 | apply zm | refine keep_far ?_ GW166.out _ | refine keep_far ?_ GW167.out _) | exact HK.out)⟩, ⟨by repeat (first | (with_reducible first | exact HB.out | apply zA | apply zN | apply zD | refine zq9 ?_ (wG HI0.out) | refine zq9 ?_ GE166.out | refine zq9 ?_ GE167.out) | exact HB.out)⟩⟩
 case rest =>
  clear HC4
  obtain ⟨kq, x8_3, x168000_3, rfl, HA, HJ3, BK166, BK167, HI0, HK, HB⟩ := hcut
  cases kq with
  | zero => exact absurd HA.out (by simp [T_inside.j0])
  | succ kj3 =>
   have H := HA.out
   clear HA
   simp only [T_inside.j0] at H
   have H' := yM H
   clear H
   obtain ⟨HGz15, hgz15⟩ := HI0.out
   have hcz15_0 := cellS79_0 HGz15
   have hcz15_1 := cellS79_1 HGz15
   have hcz15_2 := cellS79_2 HGz15
   have hcz15_3 := cellS79_3 HGz15
   have hfz15_0 := yF HGz15 0
   have hfz15_1 := yF HGz15 1
   have hfz15_2 := yF HGz15 2
   have hfz15_3 := yF HGz15 3
   clear HGz15 hgz15
   go_wp2
   go_loopg [9] kj3 (fun kq v9 w' => ∃ (x9_2 : Bool) (x1000_2 : ByteArray) (x1001_2 : Int) (x1002_2 : Int) (x1003_2 : Int) (x167000_2 : Int) (x167001_2 : Int) (x167002_2 : Int) (x167003_2 : ByteArray) (x168002_2 : Int) (x168004_2 : List (S67)) (x168005_2 : List (S67)) (u168004 : Value) (u168005 : Value), v9 = .bool x9_2 ∧ Aside0 (T_inside.l0 kq a2 x8_3 x9_2 x1000_2 x1001_2 x1002_2 x1003_2 x168000_3 s0_1 x168002_2 (⟨#[]⟩ : ByteArray) x168004_2 x168005_2 = some (r1, r2, r3, r4, r5, r6, r7, r8, r9, r10)) ∧ Aside0 (kq ≤ kj3) ∧ Aside0 (Kd.R k67 67 w' w.heap.size (fun k_ => some k_ ≠ (u168005 : Value).ownBlock ∧ k_ ≠ gb166 ∧ k_ ≠ gb167) u168004 x168004_2) ∧ Aside0 (Kd.R k67 67 w' w.heap.size (fun k_ => some k_ ≠ (u168004 : Value).ownBlock ∧ k_ ≠ gb166 ∧ k_ ≠ gb167) u168005 x168005_2) ∧ Aside0 (w'.heap[gb166]? = some (.cells #[.int .i64 x167000_2, .int .i64 x167001_2, .int .i64 x167002_2, .string x167003_2, (.slice none 0 0), (.slice none 0 0)] 67 (0, 0))) ∧ Aside0 (w'.heap[gb167]? = some (.cells #[.int .i64 x168000_3, .int .i64 s0_1, .int .i64 x168002_2, .string (⟨#[]⟩ : ByteArray), u168004, u168005] 67 (0, 0))) ∧ Aside0 (IsS79 w0 w' g x1000_2 x1001_2 x1002_2 x1003_2) ∧ Aside0 (KeepBut w w' g none) ∧ Aside0 (Below w0.heap.size w0 w'))
   case atStart => exact ⟨(true), (s0_0), (wrap64 (s0_1 + 1)), (s0_2), (s0_3), (0), (0), (0), ((⟨#[]⟩ : ByteArray)), (0), (([] : List (S67))), (([] : List (S67))), (.slice none 0 0), (.slice none 0 0), (by first | rfl | (simp; done) | (simp [*]; done)), H', ⟨Nat.le_refl _⟩, ⟨by first | exact Kd.R_nil _ _ _ _ _ | exact Kd.N_nil _ _ _ _ _ | exact Kd.V_nil _ _ _ _ _ | exact Kd.Q_nil _ _ _ _ _ | exact Kd.S_nil _ _ _ _ _⟩, ⟨by first | exact Kd.R_nil _ _ _ _ _ | exact Kd.N_nil _ _ _ _ _ | exact Kd.V_nil _ _ _ _ _ | exact Kd.Q_nil _ _ _ _ _ | exact Kd.S_nil _ _ _ _ _⟩, ⟨by (with_reducible repeat (first | refine yN ?_ _ | refine yD ?_ | refine yA ?_ _)); refine yR ?_ NB166_0.out _; (with_reducible repeat (first | refine yN ?_ _ | refine yD ?_ | refine yA ?_ _)); exact BK166.out⟩, ⟨by (with_reducible repeat (first | refine yN ?_ _ | refine yD ?_ | refine yA ?_ _)); refine yR ?_ NB167_0.out _; (with_reducible repeat (first | refine yN ?_ _ | refine yD ?_ | refine yA ?_ _)); exact BK167.out⟩, ⟨by repeat (first | (with_reducible first | exact HI0.out | apply wA | apply wN | apply wD | apply w_0 | apply w_1 | apply w_2 | apply w_3 | refine wR ?_ NB0_166.out _ | refine wR ?_ NB0_167.out _) | exact HI0.out)⟩, ⟨by repeat (first | (with_reducible first | exact HK.out | apply yK | apply zk | apply zl9 | apply zm | refine keep_far ?_ GW166.out _ | refine keep_far ?_ GW167.out _) | exact HK.out)⟩, ⟨by repeat (first | (with_reducible first | exact HB.out | apply zA | apply zN | apply zD | refine zq9 ?_ (wG HI0.out) | refine zq9 ?_ GE166.out | refine zq9 ?_ GE167.out) | exact HB.out)⟩⟩
   case round =>
    clear H'
    obtain ⟨x9_2, x1000_2, x1001_2, x1002_2, x1003_2, x167000_2, x167001_2, x167002_2, x167003_2, x168002_2, x168004_2, x168005_2, u168004, u168005, rfl, HA, HK2, HO_168004, HO_168005, BK166, BK167, HI0, HK, HB⟩ := hrel
    cases gk with
    | zero => exact absurd HA.out (by simp [T_inside.l0])
    | succ k2 =>
     have H := HA.out
     clear HA
     simp only [T_inside.l0] at H
     by_cases c16 : x1002_2 = 0
     ·rw [if_pos c16] at H
      have c16b0 : (x1002_2 == 0) = true := beq_iff_eq.mpr c16
      have c16b1 : (x1002_2 != 0) = false := bne_eq_false_iff_eq.mpr c16
      clear c16
      replace H := yO H
      obtain ⟨⟨t168, t169, t170, t171, t172⟩, A170, H⟩ := H
      replace H : (if t168 = x8_3 then (some (x168000_3, s0_1, wrap64 (t170 + 1), (⟨#[]⟩ : ByteArray), x168004_2, x168005_2, t169, wrap64 (t170 + 1), t171, t172)) else (if x9_2 = true then (T_inside.j2 k2 a2 x8_3 t168 t169 t170 t171 t172 x168000_3 s0_1 x168002_2 (⟨#[]⟩ : ByteArray) x168004_2 x168005_2) else ((T_sign.f k2 t169 t170 t171 t172 44).bind fun bt173 => ((T_next.f k2 bt173.1 bt173.2.1 bt173.2.2.1 bt173.2.2.2).bind fun bt177 => (T_inside.j2 k2 a2 x8_3 bt177.1 bt177.2.1 bt177.2.2.1 bt177.2.2.2.1 bt177.2.2.2.2 x168000_3 s0_1 x168002_2 (⟨#[]⟩ : ByteArray) x168004_2 x168005_2))))) = some (r1, r2, r3, r4, r5, r6, r7, r8, r9, r10) := H
      have A17 := yM A170
      clear A170
      by_cases c18 : t168 = x8_3
      ·rw [if_pos c18] at H
       have c18b0 : (t168 == x8_3) = true := beq_iff_eq.mpr c18
       have c18b1 : (t168 != x8_3) = false := bne_eq_false_iff_eq.mpr c18
       clear c18
       simp only [Option.some.injEq, Prod.mk.injEq] at H
       obtain ⟨rfl, rfl, rfl, rfl, rfl, rfl, rfl, rfl, rfl, rfl⟩ := H
       obtain ⟨HGz19, hgz19⟩ := HI0.out
       have hcz19_0 := cellS79_0 HGz19
       have hcz19_1 := cellS79_1 HGz19
       have hcz19_2 := cellS79_2 HGz19
       have hcz19_3 := cellS79_3 HGz19
       have hfz19_0 := yF HGz19 0
       have hfz19_1 := yF HGz19 1
       have hfz19_2 := yF HGz19 2
       have hfz19_3 := yF HGz19 3
       clear HGz19 hgz19
       go_wp2_with (first | ((with_reducible refine gate_callee (f := 33) rfl ?_); refine goesL_ (some 32) rfl rfl Tryd.func33 (by kernel_rfl) rfl #[.pointer (some ⟨g, 0, none⟩)] rfl (by (try simp only [List.map_toArray, List.map_cons, List.map_nil]); first | done | rfl | (simp only [List.length_drop, List.length_take]; rfl)) ?_; (with_reducible refine (T_next.calls k2 g x1000_2 x1001_2 x1002_2 x1003_2 t168 t169 t170 t171 t172 w0 _ ?side1 ?side2 A17.out).mono ?_); (case side1 => repeat (first | (with_reducible first | exact HI0.out | apply wA | apply wN | apply wD | apply w_0 | apply w_1 | apply w_2 | apply w_3 | refine wR ?_ NB0_166.out _ | refine wR ?_ NB0_167.out _) | exact HI0.out)); (case side2 => repeat (first | (with_reducible first | exact HB.out | apply zA | apply zN | apply zD | refine zq9 ?_ (wG HI0.out) | refine zq9 ?_ GE166.out | refine zq9 ?_ GE167.out) | exact HB.out)); rintro e w20 ⟨rfl, hi, hb, hk⟩; refine ⟨_, rfl, ?_⟩; have n0_ := yM (Kd.R_mono (Kd.R_keep (IsS79.apart (show IsS79 w0 _ g x1000_2 x1001_2 x1002_2 x1003_2 from by repeat (first | (with_reducible first | exact HI0.out | apply wA | apply wN | apply wD | apply w_0 | apply w_1 | apply w_2 | apply w_3 | refine wR ?_ NB0_166.out _ | refine wR ?_ NB0_167.out _) | exact HI0.out)) (by (with_reducible repeat (first | apply Kd.R_alloc | apply Kd.R_drewN | apply Kd.R_drew)); exact HO_168004.out) (by decide)) hk (fun _ h => h.2)) (fun _ h => h.1)); have n1_ := yM (Kd.R_mono (Kd.R_keep (IsS79.apart (show IsS79 w0 _ g x1000_2 x1001_2 x1002_2 x1003_2 from by repeat (first | (with_reducible first | exact HI0.out | apply wA | apply wN | apply wD | apply w_0 | apply w_1 | apply w_2 | apply w_3 | refine wR ?_ NB0_166.out _ | refine wR ?_ NB0_167.out _) | exact HI0.out)) (by (with_reducible repeat (first | apply Kd.R_alloc | apply Kd.R_drewN | apply Kd.R_drew)); exact HO_168005.out) (by decide)) hk (fun _ h => h.2)) (fun _ h => h.1)); have n2_ := yM (KeepBut.blk hk (g' := gb166) (o := .cells #[.int .i64 x167000_2, .int .i64 x167001_2, .int .i64 x167002_2, .string x167003_2, .slice none 0 0, .slice none 0 0] 67 (0, 0)) (by (with_reducible repeat (first | refine yN ?_ _ | refine yD ?_ | refine yA ?_ _)); exact BK166.out) NB166_0.out (by simp)); have n3_ := yM (KeepBut.blk hk (g' := gb167) (o := .cells #[.int .i64 x168000_3, .int .i64 s0_1, .int .i64 x168002_2, .string (⟨#[]⟩ : ByteArray), u168004, u168005] 67 (0, 0)) (by (with_reducible repeat (first | refine yN ?_ _ | refine yD ?_ | refine yA ?_ _)); exact BK167.out) NB167_0.out (by simp)); have n4_ := yM (KeepBut.trans (by repeat (first | (with_reducible first | exact HK.out | apply yK | apply zk | apply zl9 | apply zm | refine keep_far ?_ GW166.out _ | refine keep_far ?_ GW167.out _) | exact HK.out)) hk (.inl rfl)); have n5_ := yM (hb); have n6_ := yM (hi); clear HO_168004; clear HO_168005; clear BK166; clear BK167; clear HK; clear HB; clear HI0; have HO_168004 := n0_; have HO_168005 := n1_; have BK166 := n2_; have BK167 := n3_; have HK := n4_; have HB := n5_; have HI0 := n6_; clear n0_ n1_ n2_ n3_ n4_ n5_ n6_; (try clear hb); (try clear hb2); (try clear hk); (try clear hi); obtain ⟨HGz21, hgz21⟩ := HI0.out; have hcz21_0 := cellS79_0 HGz21; have hcz21_1 := cellS79_1 HGz21; have hcz21_2 := cellS79_2 HGz21; have hcz21_3 := cellS79_3 HGz21; have hfz21_0 := yF HGz21 0; have hfz21_1 := yF HGz21 1; have hfz21_2 := yF HGz21 2; have hfz21_3 := yF HGz21 3; clear HGz21 hgz21; have hnb22 := NB167_166.out; have hnc22 := NB166_167.out; have hnb23 := NB167_0.out; have hnc23 := NB0_167.out; have hcz24_0 : w20.cell? ⟨gb167, 0, none⟩ = some (.int .i64 x168000_3) := (yC BK167.out 0).trans rfl; have hcz24_1 : w20.cell? ⟨gb167, 1, none⟩ = some (.int .i64 s0_1) := (yC BK167.out 1).trans rfl; have hcz24_2 : w20.cell? ⟨gb167, 2, none⟩ = some (.int .i64 x168002_2) := (yC BK167.out 2).trans rfl; have hcz24_3 : w20.cell? ⟨gb167, 3, none⟩ = some (.string (⟨#[]⟩ : ByteArray)) := (yC BK167.out 3).trans rfl; have hcz24_4 : w20.cell? ⟨gb167, 4, none⟩ = some (u168004) := (yC BK167.out 4).trans rfl; have hcz24_5 : w20.cell? ⟨gb167, 5, none⟩ = some (u168005) := (yC BK167.out 5).trans rfl; have hfz24_0 := yF BK167.out 0; have hfz24_1 := yF BK167.out 1; have hfz24_2 := yF BK167.out 2; have hfz24_3 := yF BK167.out 3; have hfz24_4 := yF BK167.out 4; have hfz24_5 := yF BK167.out 5; have hnb25 := NB166_0.out; have hnc25 := NB0_166.out; have hcz26_0 : w20.cell? ⟨gb166, 0, none⟩ = some (.int .i64 x167000_2) := (yC BK166.out 0).trans rfl; have hcz26_1 : w20.cell? ⟨gb166, 1, none⟩ = some (.int .i64 x167001_2) := (yC BK166.out 1).trans rfl; have hcz26_2 : w20.cell? ⟨gb166, 2, none⟩ = some (.int .i64 x167002_2) := (yC BK166.out 2).trans rfl; have hcz26_3 : w20.cell? ⟨gb166, 3, none⟩ = some (.string x167003_2) := (yC BK166.out 3).trans rfl; have hcz26_4 : w20.cell? ⟨gb166, 4, none⟩ = some (.slice none 0 0) := (yC BK166.out 4).trans rfl; have hcz26_5 : w20.cell? ⟨gb166, 5, none⟩ = some (.slice none 0 0) := (yC BK166.out 5).trans rfl; have hfz26_0 := yF BK166.out 0; have hfz26_1 := yF BK166.out 1; have hfz26_2 := yF BK166.out 2; have hfz26_3 := yF BK166.out 3; have hfz26_4 := yF BK166.out 4; have hfz26_5 := yF BK166.out 5; obtain ⟨Ao27, co27, eo27⟩ := Kd.R_slice HO_168004.out; subst eo27; obtain ⟨Ao28, co28, eo28⟩ := Kd.R_slice HO_168005.out; subst eo28))
       refine bodyPost_ret (results_cell_row rfl _ _ gb166 67 #[.int .i64 x168000_3, .int .i64 s0_1, .int .i64 (wrap64 (t170 + 1)), .string (⟨#[]⟩ : ByteArray), .slice Ao27 x168004_2.length co27, .slice Ao28 x168005_2.length co28] (0, 0) _ rfl (by (with_reducible repeat (first | refine yN ?_ _ | refine yD ?_ | refine yA ?_ _)); refine blk_put (cs := #[.int .i64 x168000_3, .int .i64 s0_1, .int .i64 (wrap64 (t170 + 1)), .string (⟨#[]⟩ : ByteArray), .slice Ao27 x168004_2.length co27, .slice none 0 0]) ?_ 5 _ rfl; (with_reducible repeat (first | refine yN ?_ _ | refine yD ?_ | refine yA ?_ _)); refine blk_put (cs := #[.int .i64 x168000_3, .int .i64 s0_1, .int .i64 (wrap64 (t170 + 1)), .string (⟨#[]⟩ : ByteArray), .slice none 0 0, .slice none 0 0]) ?_ 4 _ rfl; (with_reducible repeat (first | refine yN ?_ _ | refine yD ?_ | refine yA ?_ _)); refine blk_put (cs := #[.int .i64 x168000_3, .int .i64 s0_1, .int .i64 (wrap64 (t170 + 1)), .string x167003_2, .slice none 0 0, .slice none 0 0]) ?_ 3 _ rfl; (with_reducible repeat (first | refine yN ?_ _ | refine yD ?_ | refine yA ?_ _)); refine blk_put (cs := #[.int .i64 x168000_3, .int .i64 s0_1, .int .i64 x167002_2, .string x167003_2, .slice none 0 0, .slice none 0 0]) ?_ 2 _ rfl; (with_reducible repeat (first | refine yN ?_ _ | refine yD ?_ | refine yA ?_ _)); refine blk_put (cs := #[.int .i64 x168000_3, .int .i64 x167001_2, .int .i64 x167002_2, .string x167003_2, .slice none 0 0, .slice none 0 0]) ?_ 1 _ rfl; (with_reducible repeat (first | refine yN ?_ _ | refine yD ?_ | refine yA ?_ _)); refine blk_put (cs := #[.int .i64 x167000_2, .int .i64 x167001_2, .int .i64 x167002_2, .string x167003_2, .slice none 0 0, .slice none 0 0]) ?_ 0 _ rfl; (with_reducible repeat (first | refine yN ?_ _ | refine yD ?_ | refine yA ?_ _)); refine yR ?_ NB166_167.out _; (with_reducible repeat (first | refine yN ?_ _ | refine yD ?_ | refine yA ?_ _)); refine yR ?_ NB166_0.out _; (with_reducible repeat (first | refine yN ?_ _ | refine yD ?_ | refine yA ?_ _)); exact BK166.out) Tryd.underlying67 rfl (by kernel_rfl)) rfl ?_
       exact ⟨_, _, by first | rfl | (simp [errW_none, errW_some] <;> rfl) | (simp [*, errW_none, errW_some] <;> rfl), by (with_reducible repeat (first | apply Kd.R_alloc | apply Kd.R_drewN | apply Kd.R_drew)); exact Kd.R_mono (Kd.R_far (p := ⟨gb166, 5, none⟩) (Kd.R_far (p := ⟨gb166, 4, none⟩) (Kd.R_far (p := ⟨gb166, 3, none⟩) (Kd.R_far (p := ⟨gb166, 2, none⟩) (Kd.R_far (p := ⟨gb166, 1, none⟩) (Kd.R_far (p := ⟨gb166, 0, none⟩) (Kd.R_far (p := ⟨gb167, 2, none⟩) (Kd.R_far (p := ⟨g, 1, none⟩) (Kd.R_mono (Kd.R_mono (IsS79.apart HI0.out HO_168004.out (by decide)) (fun k_ hk => (⟨hk, hk.1.2.2⟩ : _ ∧ k_ ≠ gb167))) (fun k_ hk => (⟨hk, hk.1.1.2.1⟩ : _ ∧ k_ ≠ gb166))) (fun _ hk => hk.1.1.2) (.int .i64 (wrap64 (t170 + 1)))) (fun _ hk => hk.1.2) (.int .i64 (wrap64 (t170 + 1)))) (fun _ hk => hk.2) (.int .i64 x168000_3)) (fun _ hk => hk.2) (.int .i64 s0_1)) (fun _ hk => hk.2) (.int .i64 (wrap64 (t170 + 1)))) (fun _ hk => hk.2) (.string (⟨#[]⟩ : ByteArray))) (fun _ hk => hk.2) (.slice Ao27 x168004_2.length co27)) (fun _ hk => hk.2) (.slice Ao28 x168005_2.length co28)) (fun _ hk => hk.1.1.1.1), by (with_reducible repeat (first | apply Kd.R_alloc | apply Kd.R_drewN | apply Kd.R_drew)); exact Kd.R_mono (Kd.R_far (p := ⟨gb166, 5, none⟩) (Kd.R_far (p := ⟨gb166, 4, none⟩) (Kd.R_far (p := ⟨gb166, 3, none⟩) (Kd.R_far (p := ⟨gb166, 2, none⟩) (Kd.R_far (p := ⟨gb166, 1, none⟩) (Kd.R_far (p := ⟨gb166, 0, none⟩) (Kd.R_far (p := ⟨gb167, 2, none⟩) (Kd.R_far (p := ⟨g, 1, none⟩) (Kd.R_mono (Kd.R_mono (IsS79.apart HI0.out HO_168005.out (by decide)) (fun k_ hk => (⟨hk, hk.1.2.2⟩ : _ ∧ k_ ≠ gb167))) (fun k_ hk => (⟨hk, hk.1.1.2.1⟩ : _ ∧ k_ ≠ gb166))) (fun _ hk => hk.1.1.2) (.int .i64 (wrap64 (t170 + 1)))) (fun _ hk => hk.1.2) (.int .i64 (wrap64 (t170 + 1)))) (fun _ hk => hk.2) (.int .i64 x168000_3)) (fun _ hk => hk.2) (.int .i64 s0_1)) (fun _ hk => hk.2) (.int .i64 (wrap64 (t170 + 1)))) (fun _ hk => hk.2) (.string (⟨#[]⟩ : ByteArray))) (fun _ hk => hk.2) (.slice Ao27 x168004_2.length co27)) (fun _ hk => hk.2) (.slice Ao28 x168005_2.length co28)) (fun _ hk => hk.1.1.1.1), by repeat (first | (with_reducible first | exact HI0.out | apply wA | apply wN | apply wD | apply w_0 | apply w_1 | apply w_2 | apply w_3 | refine wR ?_ NB0_166.out _ | refine wR ?_ NB0_167.out _) | exact HI0.out), by repeat (first | (with_reducible first | exact HB.out | apply zA | apply zN | apply zD | refine zq9 ?_ (wG HI0.out) | refine zq9 ?_ GE166.out | refine zq9 ?_ GE167.out) | exact HB.out), by repeat (first | (with_reducible first | exact HK.out | apply yK | apply zk | apply zl9 | apply zm | refine keep_far ?_ GW166.out _ | refine keep_far ?_ GW167.out _) | exact HK.out)⟩
      ·rw [if_neg c18] at H
       have c18b0 : (t168 == x8_3) = false := yB c18
       have c18b1 : (t168 != x8_3) = true := bne_iff_ne.mpr c18
       have HC29 := yM H
       clear H
       obtain ⟨HGz30, hgz30⟩ := HI0.out
       have hcz30_0 := cellS79_0 HGz30
       have hcz30_1 := cellS79_1 HGz30
       have hcz30_2 := cellS79_2 HGz30
       have hcz30_3 := cellS79_3 HGz30
       have hfz30_0 := yF HGz30 0
       have hfz30_1 := yF HGz30 1
       have hfz30_2 := yF HGz30 2
       have hfz30_3 := yF HGz30 3
       clear HGz30 hgz30
       go_upto_if 50 with (first | ((with_reducible refine gate_callee (f := 33) rfl ?_); refine goesL_ (some 32) rfl rfl Tryd.func33 (by kernel_rfl) rfl #[.pointer (some ⟨g, 0, none⟩)] rfl (by (try simp only [List.map_toArray, List.map_cons, List.map_nil]); first | done | rfl | (simp only [List.length_drop, List.length_take]; rfl)) ?_; (with_reducible refine (T_next.calls k2 g x1000_2 x1001_2 x1002_2 x1003_2 t168 t169 t170 t171 t172 w0 _ ?side1 ?side2 A17.out).mono ?_); (case side1 => repeat (first | (with_reducible first | exact HI0.out | apply wA | apply wN | apply wD | apply w_0 | apply w_1 | apply w_2 | apply w_3 | refine wR ?_ NB0_166.out _ | refine wR ?_ NB0_167.out _) | exact HI0.out)); (case side2 => repeat (first | (with_reducible first | exact HB.out | apply zA | apply zN | apply zD | refine zq9 ?_ (wG HI0.out) | refine zq9 ?_ GE166.out | refine zq9 ?_ GE167.out) | exact HB.out)); rintro e w31 ⟨rfl, hi, hb, hk⟩; refine ⟨_, rfl, ?_⟩; have n0_ := yM (Kd.R_mono (Kd.R_keep (IsS79.apart (show IsS79 w0 _ g x1000_2 x1001_2 x1002_2 x1003_2 from by repeat (first | (with_reducible first | exact HI0.out | apply wA | apply wN | apply wD | apply w_0 | apply w_1 | apply w_2 | apply w_3 | refine wR ?_ NB0_166.out _ | refine wR ?_ NB0_167.out _) | exact HI0.out)) (by (with_reducible repeat (first | apply Kd.R_alloc | apply Kd.R_drewN | apply Kd.R_drew)); exact HO_168004.out) (by decide)) hk (fun _ h => h.2)) (fun _ h => h.1)); have n1_ := yM (Kd.R_mono (Kd.R_keep (IsS79.apart (show IsS79 w0 _ g x1000_2 x1001_2 x1002_2 x1003_2 from by repeat (first | (with_reducible first | exact HI0.out | apply wA | apply wN | apply wD | apply w_0 | apply w_1 | apply w_2 | apply w_3 | refine wR ?_ NB0_166.out _ | refine wR ?_ NB0_167.out _) | exact HI0.out)) (by (with_reducible repeat (first | apply Kd.R_alloc | apply Kd.R_drewN | apply Kd.R_drew)); exact HO_168005.out) (by decide)) hk (fun _ h => h.2)) (fun _ h => h.1)); have n2_ := yM (KeepBut.blk hk (g' := gb166) (o := .cells #[.int .i64 x167000_2, .int .i64 x167001_2, .int .i64 x167002_2, .string x167003_2, .slice none 0 0, .slice none 0 0] 67 (0, 0)) (by (with_reducible repeat (first | refine yN ?_ _ | refine yD ?_ | refine yA ?_ _)); exact BK166.out) NB166_0.out (by simp)); have n3_ := yM (KeepBut.blk hk (g' := gb167) (o := .cells #[.int .i64 x168000_3, .int .i64 s0_1, .int .i64 x168002_2, .string (⟨#[]⟩ : ByteArray), u168004, u168005] 67 (0, 0)) (by (with_reducible repeat (first | refine yN ?_ _ | refine yD ?_ | refine yA ?_ _)); exact BK167.out) NB167_0.out (by simp)); have n4_ := yM (KeepBut.trans (by repeat (first | (with_reducible first | exact HK.out | apply yK | apply zk | apply zl9 | apply zm | refine keep_far ?_ GW166.out _ | refine keep_far ?_ GW167.out _) | exact HK.out)) hk (.inl rfl)); have n5_ := yM (hb); have n6_ := yM (hi); clear HO_168004; clear HO_168005; clear BK166; clear BK167; clear HK; clear HB; clear HI0; have HO_168004 := n0_; have HO_168005 := n1_; have BK166 := n2_; have BK167 := n3_; have HK := n4_; have HB := n5_; have HI0 := n6_; clear n0_ n1_ n2_ n3_ n4_ n5_ n6_; (try clear hb); (try clear hb2); (try clear hk); (try clear hi)))
       (try simp only [Act.put, yX, yY, yZ])
       go_cut [10] (fun v10 wc => ∃ (kq : Nat) (x10_28 : Int) (x1000_28 : ByteArray) (x1001_28 : Int) (x1002_28 : Int) (x1003_28 : Int), v10 = .int .u8 x10_28 ∧ Aside0 (T_inside.j2 kq a2 x8_3 x10_28 x1000_28 x1001_28 x1002_28 x1003_28 x168000_3 s0_1 x168002_2 (⟨#[]⟩ : ByteArray) x168004_2 x168005_2 = some (r1, r2, r3, r4, r5, r6, r7, r8, r9, r10)) ∧ Aside0 (kq ≤ k2) ∧ Aside0 (Kd.R k67 67 wc w.heap.size (fun k_ => some k_ ≠ (u168005 : Value).ownBlock ∧ k_ ≠ gb166 ∧ k_ ≠ gb167) u168004 x168004_2) ∧ Aside0 (Kd.R k67 67 wc w.heap.size (fun k_ => some k_ ≠ (u168004 : Value).ownBlock ∧ k_ ≠ gb166 ∧ k_ ≠ gb167) u168005 x168005_2) ∧ Aside0 (wc.heap[gb166]? = some (.cells #[.int .i64 x167000_2, .int .i64 x167001_2, .int .i64 x167002_2, .string x167003_2, (.slice none 0 0), (.slice none 0 0)] 67 (0, 0))) ∧ Aside0 (wc.heap[gb167]? = some (.cells #[.int .i64 x168000_3, .int .i64 s0_1, .int .i64 x168002_2, .string (⟨#[]⟩ : ByteArray), u168004, u168005] 67 (0, 0))) ∧ Aside0 (IsS79 w0 wc g x1000_28 x1001_28 x1002_28 x1003_28) ∧ Aside0 (KeepBut w wc g none) ∧ Aside0 (Below w0.heap.size w0 wc))
       case first =>
        have H := HC29.out
        clear HC29
        by_cases c32 : x9_2 = true
        ·subst c32
         have H1 : (T_inside.j2 k2 a2 x8_3 t168 t169 t170 t171 t172 x168000_3 s0_1 x168002_2 (⟨#[]⟩ : ByteArray) x168004_2 x168005_2) = some (r1, r2, r3, r4, r5, r6, r7, r8, r9, r10) := by rw [if_pos rfl] at H; exact H
         clear H
         have H := H1
         clear H1
         have H' := yM H
         clear H
         go_wp2
         go_meet
         case rel => exact ⟨_, (t168), (t169), (t170), (t171), (t172), (by first | rfl | (simp; done) | (simp [*]; done)), H', ⟨by have := HJ3.out; have := HK2.out; first | omega | exact Nat.le_refl _⟩, ⟨by (with_reducible repeat (first | apply Kd.R_alloc | apply Kd.R_drewN | apply Kd.R_drew)); exact HO_168004.out⟩, ⟨by (with_reducible repeat (first | apply Kd.R_alloc | apply Kd.R_drewN | apply Kd.R_drew)); exact HO_168005.out⟩, ⟨by (with_reducible repeat (first | refine yN ?_ _ | refine yD ?_ | refine yA ?_ _)); exact BK166.out⟩, ⟨by (with_reducible repeat (first | refine yN ?_ _ | refine yD ?_ | refine yA ?_ _)); exact BK167.out⟩, ⟨by repeat (first | (with_reducible first | exact HI0.out | apply wA | apply wN | apply wD | apply w_0 | apply w_1 | apply w_2 | apply w_3 | refine wR ?_ NB0_166.out _ | refine wR ?_ NB0_167.out _) | exact HI0.out)⟩, ⟨by repeat (first | (with_reducible first | exact HK.out | apply yK | apply zk | apply zl9 | apply zm | refine keep_far ?_ GW166.out _ | refine keep_far ?_ GW167.out _) | exact HK.out)⟩, ⟨by repeat (first | (with_reducible first | exact HB.out | apply zA | apply zN | apply zD | refine zq9 ?_ (wG HI0.out) | refine zq9 ?_ GE166.out | refine zq9 ?_ GE167.out) | exact HB.out)⟩⟩
        ·replace c32 := Bool.eq_false_iff.mpr c32
         subst c32
         have H1 : ((T_sign.f k2 t169 t170 t171 t172 44).bind fun bt173 => ((T_next.f k2 bt173.1 bt173.2.1 bt173.2.2.1 bt173.2.2.2).bind fun bt177 => (T_inside.j2 k2 a2 x8_3 bt177.1 bt177.2.1 bt177.2.2.1 bt177.2.2.2.1 bt177.2.2.2.2 x168000_3 s0_1 x168002_2 (⟨#[]⟩ : ByteArray) x168004_2 x168005_2))) = some (r1, r2, r3, r4, r5, r6, r7, r8, r9, r10) := by rw [if_neg (show ¬ (false = true) by decide)] at H; exact H
         clear H
         have H := H1
         clear H1
         replace H := yO H
         obtain ⟨⟨t173, t174, t175, t176⟩, A330, H⟩ := H
         replace H : ((T_next.f k2 t173 t174 t175 t176).bind fun bt177 => (T_inside.j2 k2 a2 x8_3 bt177.1 bt177.2.1 bt177.2.2.1 bt177.2.2.2.1 bt177.2.2.2.2 x168000_3 s0_1 x168002_2 (⟨#[]⟩ : ByteArray) x168004_2 x168005_2)) = some (r1, r2, r3, r4, r5, r6, r7, r8, r9, r10) := H
         have A33 := yM A330
         clear A330
         replace H := yO H
         obtain ⟨⟨t177, t178, t179, t180, t181⟩, A340, H⟩ := H
         replace H : (T_inside.j2 k2 a2 x8_3 t177 t178 t179 t180 t181 x168000_3 s0_1 x168002_2 (⟨#[]⟩ : ByteArray) x168004_2 x168005_2) = some (r1, r2, r3, r4, r5, r6, r7, r8, r9, r10) := H
         have A34 := yM A340
         clear A340
         have H' := yM H
         clear H
         go_wp2_with (first | ((with_reducible refine gate_callee (f := 62) rfl ?_); refine goesL_ (some 52) rfl rfl Tryd.func62 (by kernel_rfl) rfl #[.pointer (some ⟨g, 0, none⟩), .int .u8 44] rfl (by (try simp only [List.map_toArray, List.map_cons, List.map_nil]); first | done | rfl | (simp only [List.length_drop, List.length_take]; rfl)) ?_; (with_reducible refine (T_sign.calls k2 g t169 t170 t171 t172 44 t173 t174 t175 t176 w0 _ ?side1 ?side2 A33.out).mono ?_); (case side1 => repeat (first | (with_reducible first | exact HI0.out | apply wA | apply wN | apply wD | apply w_0 | apply w_1 | apply w_2 | apply w_3 | refine wR ?_ NB0_166.out _ | refine wR ?_ NB0_167.out _) | exact HI0.out)); (case side2 => repeat (first | (with_reducible first | exact HB.out | apply zA | apply zN | apply zD | refine zq9 ?_ (wG HI0.out) | refine zq9 ?_ GE166.out | refine zq9 ?_ GE167.out) | exact HB.out)); rintro e w35 ⟨rfl, hi, hb, hk⟩; refine ⟨_, rfl, ?_⟩; have n0_ := yM (Kd.R_mono (Kd.R_keep (IsS79.apart (show IsS79 w0 _ g t169 t170 t171 t172 from by repeat (first | (with_reducible first | exact HI0.out | apply wA | apply wN | apply wD | apply w_0 | apply w_1 | apply w_2 | apply w_3 | refine wR ?_ NB0_166.out _ | refine wR ?_ NB0_167.out _) | exact HI0.out)) (by (with_reducible repeat (first | apply Kd.R_alloc | apply Kd.R_drewN | apply Kd.R_drew)); exact HO_168004.out) (by decide)) hk (fun _ h => h.2)) (fun _ h => h.1)); have n1_ := yM (Kd.R_mono (Kd.R_keep (IsS79.apart (show IsS79 w0 _ g t169 t170 t171 t172 from by repeat (first | (with_reducible first | exact HI0.out | apply wA | apply wN | apply wD | apply w_0 | apply w_1 | apply w_2 | apply w_3 | refine wR ?_ NB0_166.out _ | refine wR ?_ NB0_167.out _) | exact HI0.out)) (by (with_reducible repeat (first | apply Kd.R_alloc | apply Kd.R_drewN | apply Kd.R_drew)); exact HO_168005.out) (by decide)) hk (fun _ h => h.2)) (fun _ h => h.1)); have n2_ := yM (KeepBut.blk hk (g' := gb166) (o := .cells #[.int .i64 x167000_2, .int .i64 x167001_2, .int .i64 x167002_2, .string x167003_2, .slice none 0 0, .slice none 0 0] 67 (0, 0)) (by (with_reducible repeat (first | refine yN ?_ _ | refine yD ?_ | refine yA ?_ _)); exact BK166.out) NB166_0.out (by simp)); have n3_ := yM (KeepBut.blk hk (g' := gb167) (o := .cells #[.int .i64 x168000_3, .int .i64 s0_1, .int .i64 x168002_2, .string (⟨#[]⟩ : ByteArray), u168004, u168005] 67 (0, 0)) (by (with_reducible repeat (first | refine yN ?_ _ | refine yD ?_ | refine yA ?_ _)); exact BK167.out) NB167_0.out (by simp)); have n4_ := yM (KeepBut.trans (by repeat (first | (with_reducible first | exact HK.out | apply yK | apply zk | apply zl9 | apply zm | refine keep_far ?_ GW166.out _ | refine keep_far ?_ GW167.out _) | exact HK.out)) hk (.inl rfl)); have n5_ := yM (hb); have n6_ := yM (hi); clear HO_168004; clear HO_168005; clear BK166; clear BK167; clear HK; clear HB; clear HI0; have HO_168004 := n0_; have HO_168005 := n1_; have BK166 := n2_; have BK167 := n3_; have HK := n4_; have HB := n5_; have HI0 := n6_; clear n0_ n1_ n2_ n3_ n4_ n5_ n6_; (try clear hb); (try clear hb2); (try clear hk); (try clear hi)) | ((with_reducible refine gate_callee (f := 33) rfl ?_); refine goesL_ (some 54) rfl rfl Tryd.func33 (by kernel_rfl) rfl #[.pointer (some ⟨g, 0, none⟩)] rfl (by (try simp only [List.map_toArray, List.map_cons, List.map_nil]); first | done | rfl | (simp only [List.length_drop, List.length_take]; rfl)) ?_; (with_reducible refine (T_next.calls k2 g t173 t174 t175 t176 t177 t178 t179 t180 t181 w0 _ ?side1 ?side2 A34.out).mono ?_); (case side1 => repeat (first | (with_reducible first | exact HI0.out | apply wA | apply wN | apply wD | apply w_0 | apply w_1 | apply w_2 | apply w_3 | refine wR ?_ NB0_166.out _ | refine wR ?_ NB0_167.out _) | exact HI0.out)); (case side2 => repeat (first | (with_reducible first | exact HB.out | apply zA | apply zN | apply zD | refine zq9 ?_ (wG HI0.out) | refine zq9 ?_ GE166.out | refine zq9 ?_ GE167.out) | exact HB.out)); rintro e w36 ⟨rfl, hi, hb, hk⟩; refine ⟨_, rfl, ?_⟩; have n0_ := yM (Kd.R_mono (Kd.R_keep (IsS79.apart (show IsS79 w0 _ g t173 t174 t175 t176 from by repeat (first | (with_reducible first | exact HI0.out | apply wA | apply wN | apply wD | apply w_0 | apply w_1 | apply w_2 | apply w_3 | refine wR ?_ NB0_166.out _ | refine wR ?_ NB0_167.out _) | exact HI0.out)) (by (with_reducible repeat (first | apply Kd.R_alloc | apply Kd.R_drewN | apply Kd.R_drew)); exact HO_168004.out) (by decide)) hk (fun _ h => h.2)) (fun _ h => h.1)); have n1_ := yM (Kd.R_mono (Kd.R_keep (IsS79.apart (show IsS79 w0 _ g t173 t174 t175 t176 from by repeat (first | (with_reducible first | exact HI0.out | apply wA | apply wN | apply wD | apply w_0 | apply w_1 | apply w_2 | apply w_3 | refine wR ?_ NB0_166.out _ | refine wR ?_ NB0_167.out _) | exact HI0.out)) (by (with_reducible repeat (first | apply Kd.R_alloc | apply Kd.R_drewN | apply Kd.R_drew)); exact HO_168005.out) (by decide)) hk (fun _ h => h.2)) (fun _ h => h.1)); have n2_ := yM (KeepBut.blk hk (g' := gb166) (o := .cells #[.int .i64 x167000_2, .int .i64 x167001_2, .int .i64 x167002_2, .string x167003_2, .slice none 0 0, .slice none 0 0] 67 (0, 0)) (by (with_reducible repeat (first | refine yN ?_ _ | refine yD ?_ | refine yA ?_ _)); exact BK166.out) NB166_0.out (by simp)); have n3_ := yM (KeepBut.blk hk (g' := gb167) (o := .cells #[.int .i64 x168000_3, .int .i64 s0_1, .int .i64 x168002_2, .string (⟨#[]⟩ : ByteArray), u168004, u168005] 67 (0, 0)) (by (with_reducible repeat (first | refine yN ?_ _ | refine yD ?_ | refine yA ?_ _)); exact BK167.out) NB167_0.out (by simp)); have n4_ := yM (KeepBut.trans (by repeat (first | (with_reducible first | exact HK.out | apply yK | apply zk | apply zl9 | apply zm | refine keep_far ?_ GW166.out _ | refine keep_far ?_ GW167.out _) | exact HK.out)) hk (.inl rfl)); have n5_ := yM (hb); have n6_ := yM (hi); clear HO_168004; clear HO_168005; clear BK166; clear BK167; clear HK; clear HB; clear HI0; have HO_168004 := n0_; have HO_168005 := n1_; have BK166 := n2_; have BK167 := n3_; have HK := n4_; have HB := n5_; have HI0 := n6_; clear n0_ n1_ n2_ n3_ n4_ n5_ n6_; (try clear hb); (try clear hb2); (try clear hk); (try clear hi)))
         go_meet
         case rel => exact ⟨_, (t177), (t178), (t179), (t180), (t181), (by first | rfl | (simp; done) | (simp [*]; done)), H', ⟨by have := HJ3.out; have := HK2.out; first | omega | exact Nat.le_refl _⟩, ⟨by (with_reducible repeat (first | apply Kd.R_alloc | apply Kd.R_drewN | apply Kd.R_drew)); exact HO_168004.out⟩, ⟨by (with_reducible repeat (first | apply Kd.R_alloc | apply Kd.R_drewN | apply Kd.R_drew)); exact HO_168005.out⟩, ⟨by (with_reducible repeat (first | refine yN ?_ _ | refine yD ?_ | refine yA ?_ _)); exact BK166.out⟩, ⟨by (with_reducible repeat (first | refine yN ?_ _ | refine yD ?_ | refine yA ?_ _)); exact BK167.out⟩, ⟨by repeat (first | (with_reducible first | exact HI0.out | apply wA | apply wN | apply wD | apply w_0 | apply w_1 | apply w_2 | apply w_3 | refine wR ?_ NB0_166.out _ | refine wR ?_ NB0_167.out _) | exact HI0.out)⟩, ⟨by repeat (first | (with_reducible first | exact HK.out | apply yK | apply zk | apply zl9 | apply zm | refine keep_far ?_ GW166.out _ | refine keep_far ?_ GW167.out _) | exact HK.out)⟩, ⟨by repeat (first | (with_reducible first | exact HB.out | apply zA | apply zN | apply zD | refine zq9 ?_ (wG HI0.out) | refine zq9 ?_ GE166.out | refine zq9 ?_ GE167.out) | exact HB.out)⟩⟩
       case rest =>
        clear HC29
        obtain ⟨kq, x10_28, x1000_28, x1001_28, x1002_28, x1003_28, rfl, HA, HJ28, HO_168004, HO_168005, BK166, BK167, HI0, HK, HB⟩ := hcut
        cases kq with
        | zero => exact absurd HA.out (by simp [T_inside.j2])
        | succ kj28 =>
         have H := HA.out
         clear HA
         simp only [T_inside.j2] at H
         by_cases c37 : x168000_3 = 1
         ·rw [if_pos c37] at H
          have c37b0 : (x168000_3 == 1) = true := beq_iff_eq.mpr c37
          have c37b1 : (x168000_3 != 1) = false := bne_eq_false_iff_eq.mpr c37
          clear c37
          by_cases c38 : x10_28 = 34
          ·rw [if_pos c38] at H
           have c38b0 : (x10_28 == 34) = true := beq_iff_eq.mpr c38
           have c38b1 : (x10_28 != 34) = false := bne_eq_false_iff_eq.mpr c38
           clear c38
           replace H := yO H
           obtain ⟨⟨t186, t187, t188, t189, t190, t193, t196, t197, t198, t199⟩, A390, H⟩ := H
           replace H : (if x168004_2.length < 1599289640401 then ((some (x168004_2 ++ [(⟨t186, t187, t188, t189, t190, t193⟩ : S67)] : List (S67))).bind fun y200 => (if t198 = 0 then ((T_value.f kj28 t196 t197 t198 t199 a2).bind fun bt203 => (if x168005_2.length < 1599289640401 then (T_inside.l0 kj28 a2 x8_3 false bt203.2.2.2.2.2.2.1 bt203.2.2.2.2.2.2.2.1 bt203.2.2.2.2.2.2.2.2.1 bt203.2.2.2.2.2.2.2.2.2 x168000_3 s0_1 x168002_2 (⟨#[]⟩ : ByteArray) y200 (x168005_2 ++ [(⟨bt203.1, bt203.2.1, bt203.2.2.1, bt203.2.2.2.1, bt203.2.2.2.2.1, bt203.2.2.2.2.2.1⟩ : S67)])) else (none))) else (T_inside.l0 kj28 a2 x8_3 false t196 t197 t198 t199 x168000_3 s0_1 x168002_2 (⟨#[]⟩ : ByteArray) y200 x168005_2))) else (none)) = some (r1, r2, r3, r4, r5, r6, r7, r8, r9, r10) := H
           have A39 := yM A390
           clear A390
           by_cases c40 : x168004_2.length < 1599289640401
           ·rw [if_pos c40] at H
            have LMc40 := yM c40
            clear c40
            obtain ⟨y200, hy200⟩ : ∃ y_ : List (S67), y_ = (x168004_2 ++ [(⟨t186, t187, t188, t189, t190, t193⟩ : S67)]) := ⟨_, rfl⟩
            replace H : (if t198 = 0 then ((T_value.f kj28 t196 t197 t198 t199 a2).bind fun bt203 => (if x168005_2.length < 1599289640401 then (T_inside.l0 kj28 a2 x8_3 false bt203.2.2.2.2.2.2.1 bt203.2.2.2.2.2.2.2.1 bt203.2.2.2.2.2.2.2.2.1 bt203.2.2.2.2.2.2.2.2.2 x168000_3 s0_1 x168002_2 (⟨#[]⟩ : ByteArray) y200 (x168005_2 ++ [(⟨bt203.1, bt203.2.1, bt203.2.2.1, bt203.2.2.2.1, bt203.2.2.2.2.1, bt203.2.2.2.2.2.1⟩ : S67)])) else (none))) else (T_inside.l0 kj28 a2 x8_3 false t196 t197 t198 t199 x168000_3 s0_1 x168002_2 (⟨#[]⟩ : ByteArray) y200 x168005_2)) = some (r1, r2, r3, r4, r5, r6, r7, r8, r9, r10) := by first | (rw [hy200]; with_reducible exact H) | (have H2_ := (Option.bind_some _ _).symm.trans H; rw [hy200]; with_reducible exact H2_) | (have H2_ := (Option.bind_some _ _).symm.trans H; with_reducible exact H2_) | with_reducible exact H | (rw [hy200]; exact H) | exact H
            have Ny200 := yM hy200
            clear hy200
            by_cases c41 : t198 = 0
            ·rw [if_pos c41] at H
             have c41b0 : (t198 == 0) = true := beq_iff_eq.mpr c41
             have c41b1 : (t198 != 0) = false := bne_eq_false_iff_eq.mpr c41
             clear c41
             replace H := yO H
             obtain ⟨⟨t203, t204, t205, t206, t207, t210, t213, t214, t215, t216⟩, A420, H⟩ := H
             replace H : (if x168005_2.length < 1599289640401 then (T_inside.l0 kj28 a2 x8_3 false t213 t214 t215 t216 x168000_3 s0_1 x168002_2 (⟨#[]⟩ : ByteArray) y200 (x168005_2 ++ [(⟨t203, t204, t205, t206, t207, t210⟩ : S67)])) else (none)) = some (r1, r2, r3, r4, r5, r6, r7, r8, r9, r10) := H
             have A42 := yM A420
             clear A420
             by_cases c43 : x168005_2.length < 1599289640401
             ·rw [if_pos c43] at H
              have LMc43 := yM c43
              clear c43
              obtain ⟨y217, hy217⟩ : ∃ y_ : List (S67), y_ = (x168005_2 ++ [(⟨t203, t204, t205, t206, t207, t210⟩ : S67)]) := ⟨_, rfl⟩
              replace H : (T_inside.l0 kj28 a2 x8_3 false t213 t214 t215 t216 x168000_3 s0_1 x168002_2 (⟨#[]⟩ : ByteArray) y200 y217) = some (r1, r2, r3, r4, r5, r6, r7, r8, r9, r10) := by first | (rw [hy217]; with_reducible exact H) | (have H2_ := (Option.bind_some _ _).symm.trans H; rw [hy217]; with_reducible exact H2_) | (have H2_ := (Option.bind_some _ _).symm.trans H; with_reducible exact H2_) | with_reducible exact H | (rw [hy217]; exact H) | exact H
              have Ny217 := yM hy217
              clear hy217
              have H' := yM H
              clear H
              have hnb44 := NB167_166.out
              have hnc44 := NB166_167.out
              have hnb45 := NB167_0.out
              have hnc45 := NB0_167.out
              have hcz46_0 : wc.cell? ⟨gb167, 0, none⟩ = some (.int .i64 x168000_3) := (yC BK167.out 0).trans rfl
              have hcz46_1 : wc.cell? ⟨gb167, 1, none⟩ = some (.int .i64 s0_1) := (yC BK167.out 1).trans rfl
              have hcz46_2 : wc.cell? ⟨gb167, 2, none⟩ = some (.int .i64 x168002_2) := (yC BK167.out 2).trans rfl
              have hcz46_3 : wc.cell? ⟨gb167, 3, none⟩ = some (.string (⟨#[]⟩ : ByteArray)) := (yC BK167.out 3).trans rfl
              have hcz46_4 : wc.cell? ⟨gb167, 4, none⟩ = some (u168004) := (yC BK167.out 4).trans rfl
              have hcz46_5 : wc.cell? ⟨gb167, 5, none⟩ = some (u168005) := (yC BK167.out 5).trans rfl
              have hfz46_0 := yF BK167.out 0
              have hfz46_1 := yF BK167.out 1
              have hfz46_2 := yF BK167.out 2
              have hfz46_3 := yF BK167.out 3
              have hfz46_4 := yF BK167.out 4
              have hfz46_5 := yF BK167.out 5
              try go_wp2
              have n0_ := yM (Kd.R_drew HO_168004.out)
              have n1_ := yM (Kd.R_drew HO_168005.out)
              have n2_ := yM (yD BK166.out)
              have n3_ := yM (yD BK167.out)
              have n4_ := yM (wD HI0.out)
              have n5_ := yM (zl9 HK.out)
              have n6_ := yM (zD HB.out)
              clear HO_168004
              clear HO_168005
              clear BK166
              clear BK167
              clear HI0
              clear HK
              clear HB
              have HO_168004 := n0_
              have HO_168005 := n1_
              have BK166 := n2_
              have BK167 := n3_
              have HI0 := n4_
              have HK := n5_
              have HB := n6_
              clear n0_ n1_ n2_ n3_ n4_ n5_ n6_
              refine start_ (n := 8) (S := fun w' => w'.cell? ⟨gb167, 0, none⟩ = some (.int .i64 x168000_3) ∧ w'.cell? ⟨gb167, 1, none⟩ = some (.int .i64 s0_1) ∧ w'.cell? ⟨gb167, 2, none⟩ = some (.int .i64 x168002_2) ∧ w'.cell? ⟨gb167, 3, none⟩ = some (.string (⟨#[]⟩ : ByteArray)) ∧ w'.cell? ⟨gb167, 4, none⟩ = some (u168004) ∧ w'.cell? ⟨gb167, 5, none⟩ = some (u168005)) (ds := [7]) #[false, false, false, false, false, false, false, false] (by kernel_rfl) rfl rfl ⟨(yC BK167.out 0).trans rfl, (yC BK167.out 1).trans rfl, (yC BK167.out 2).trans rfl, (yC BK167.out 3).trans rfl, (yC BK167.out 4).trans rfl, (yC BK167.out 5).trans rfl⟩ (fun hHeld => ?_); refine with_tabW T_inside.tab22 T_inside.bits22 (fun HT_ HW_ => ?_)
              generalize wc.drew = w47 at HO_168004 HO_168005 BK166 BK167 HI0 HK HB hHeld ⊢
              refine pure_ (i := 0) (N := some 67) (v := ?_) (a' := ?_) #[true, false, false, false, false, false, false, false] rfl rfl (any_of HT_.out (by kernel_rfl)) (fun _ _ _ h => h) (Or.inl ⟨by rfl, ?_⟩) ?_ ?_
              rotate_left
              ·intro w'
               go_simp
               with_reducible rfl
              rotate_left
              ·simp only [Act.put, yX, yY, yZ, i64_w, i32_w]
               rfl
              refine pure_ (i := 2) (N := some 69) (v := ?_) (a' := ?_) #[true, false, true, false, false, false, false, false] rfl rfl (any_of HT_.out (by kernel_rfl)) (fun _ _ _ h => h) (Or.inl ⟨by rfl, ?_⟩) ?_ ?_
              rotate_left
              ·intro w'
               go_simp
               with_reducible rfl
              rotate_left
              ·simp only [Act.put, yX, yY, yZ, i64_w, i32_w]
               rfl
              refine take_ (i := 1) (N := some 68) (v := ?_) (a' := ?_) #[true, true, true, false, false, false, false, false] rfl rfl (take_ofW HT_.out HW_.out (by kernel_rfl)) (fun _ _ _ h => h) (Or.inl ⟨by rfl, ?_⟩) hHeld ?_ ?_
              rotate_left
              ·rintro w' ⟨s0, s1, s2, s3, s4, s5⟩
               go_simp
               with_reducible rfl
              rotate_left
              ·simp only [Act.put, yX, yY, yZ, i64_w, i32_w]
               rfl
              refine one_ (i := 3) (N := some 70) #[true, true, true, true, false, false, false, false] rfl rfl (one_of HT_.out (by kernel_rfl)) (by decide) (fun K hK => ?_)
              refine goes_ Tryd.func63 (by kernel_rfl) rfl #[.pointer (some ⟨g, 0, none⟩)] (by rfl) rfl rfl (by (try simp only [List.map_toArray, List.map_cons, List.map_nil]); first | done | rfl | (simp only [List.length_drop, List.length_take]; rfl)) ?_
              with_reducible refine (T_name.calls kj28 g x1000_28 x1001_28 x1002_28 x1003_28 t186 t187 t188 t189 t190 t193 t196 t197 t198 t199 w0 _ ?side1 ?side2 A39.out).mono ?_
              (case side1 => repeat (first | (with_reducible first | exact HI0.out | apply wA | apply wN | apply wD | apply w_0 | apply w_1 | apply w_2 | apply w_3 | refine wR ?_ NB0_166.out _ | refine wR ?_ NB0_167.out _) | exact HI0.out))
              (case side2 => repeat (first | (with_reducible first | exact HB.out | apply zA | apply zN | apply zD | refine zq9 ?_ (wG HI0.out) | refine zq9 ?_ GE166.out | refine zq9 ?_ GE167.out) | exact HB.out))
              rintro e w48 ⟨v191, v194, rfl, ho0, ho1, hi, hb, hk⟩
              refine ⟨_, rfl, ?_⟩
              have n0_ := yM (Kd.R_mono (Kd.R_told (Kd.R_told (Kd.R_oldK (IsS79.apart (show IsS79 w0 _ g x1000_28 x1001_28 x1002_28 x1003_28 from by repeat (first | (with_reducible first | exact HI0.out | apply wA | apply wN | apply wD | apply w_0 | apply w_1 | apply w_2 | apply w_3 | refine wR ?_ NB0_166.out _ | refine wR ?_ NB0_167.out _) | exact HI0.out)) (by (with_reducible repeat (first | apply Kd.R_alloc | apply Kd.R_drewN | apply Kd.R_drew)); exact HO_168004.out) (by decide)) hk) (Kd.R_base ho0)) (Kd.R_base ho1)) (fun _ h_ => h_.1))
              have n1_ := yM (Kd.R_mono (Kd.R_told (Kd.R_told (Kd.R_oldK (IsS79.apart (show IsS79 w0 _ g x1000_28 x1001_28 x1002_28 x1003_28 from by repeat (first | (with_reducible first | exact HI0.out | apply wA | apply wN | apply wD | apply w_0 | apply w_1 | apply w_2 | apply w_3 | refine wR ?_ NB0_166.out _ | refine wR ?_ NB0_167.out _) | exact HI0.out)) (by (with_reducible repeat (first | apply Kd.R_alloc | apply Kd.R_drewN | apply Kd.R_drew)); exact HO_168005.out) (by decide)) hk) (Kd.R_base ho0)) (Kd.R_base ho1)) (fun _ h_ => h_.1))
              have n2_ := yM (KeepBut.blk hk (g' := gb166) (o := .cells #[.int .i64 x167000_2, .int .i64 x167001_2, .int .i64 x167002_2, .string x167003_2, .slice none 0 0, .slice none 0 0] 67 (0, 0)) (by (with_reducible repeat (first | refine yN ?_ _ | refine yD ?_ | refine yA ?_ _)); exact BK166.out) NB166_0.out (by simp))
              have n3_ := yM (KeepBut.blk hk (g' := gb167) (o := .cells #[.int .i64 x168000_3, .int .i64 s0_1, .int .i64 x168002_2, .string (⟨#[]⟩ : ByteArray), u168004, u168005] 67 (0, 0)) (by (with_reducible repeat (first | refine yN ?_ _ | refine yD ?_ | refine yA ?_ _)); exact BK167.out) NB167_0.out (by simp))
              have n4_ := yM (Kd.R_lower (Kd.R_newB (Kd.R_newB (Kd.R_new' (Kd.R_new' ho0 (Kd.R_lt (by (with_reducible repeat (first | apply Kd.R_alloc | apply Kd.R_drewN | apply Kd.R_drew)); exact HO_168004.out))) (Kd.R_lt (by (with_reducible repeat (first | apply Kd.R_alloc | apply Kd.R_drewN | apply Kd.R_drew)); exact HO_168005.out))) (g := gb166) (o := .cells #[.int .i64 x167000_2, .int .i64 x167001_2, .int .i64 x167002_2, .string x167003_2, .slice none 0 0, .slice none 0 0] 67 (0, 0)) (by (with_reducible repeat (first | refine yN ?_ _ | refine yD ?_ | refine yA ?_ _)); exact BK166.out)) (g := gb167) (o := .cells #[.int .i64 x168000_3, .int .i64 s0_1, .int .i64 x168002_2, .string (⟨#[]⟩ : ByteArray), u168004, u168005] 67 (0, 0)) (by (with_reducible repeat (first | refine yN ?_ _ | refine yD ?_ | refine yA ?_ _)); exact BK167.out)) (keep_size (w := w) (g := g) (row := none) (by repeat (first | (with_reducible first | exact HK.out | apply yK | apply zk | apply zl9 | apply zm | refine keep_far ?_ GW166.out _ | refine keep_far ?_ GW167.out _) | exact HK.out))))
              have n5_ := yM (Kd.R_lower (Kd.R_newB (Kd.R_newB (Kd.R_new' (Kd.R_new' ho1 (Kd.R_lt (by (with_reducible repeat (first | apply Kd.R_alloc | apply Kd.R_drewN | apply Kd.R_drew)); exact HO_168004.out))) (Kd.R_lt (by (with_reducible repeat (first | apply Kd.R_alloc | apply Kd.R_drewN | apply Kd.R_drew)); exact HO_168005.out))) (g := gb166) (o := .cells #[.int .i64 x167000_2, .int .i64 x167001_2, .int .i64 x167002_2, .string x167003_2, .slice none 0 0, .slice none 0 0] 67 (0, 0)) (by (with_reducible repeat (first | refine yN ?_ _ | refine yD ?_ | refine yA ?_ _)); exact BK166.out)) (g := gb167) (o := .cells #[.int .i64 x168000_3, .int .i64 s0_1, .int .i64 x168002_2, .string (⟨#[]⟩ : ByteArray), u168004, u168005] 67 (0, 0)) (by (with_reducible repeat (first | refine yN ?_ _ | refine yD ?_ | refine yA ?_ _)); exact BK167.out)) (keep_size (w := w) (g := g) (row := none) (by repeat (first | (with_reducible first | exact HK.out | apply yK | apply zk | apply zl9 | apply zm | refine keep_far ?_ GW166.out _ | refine keep_far ?_ GW167.out _) | exact HK.out))))
              have n6_ := yM (KeepBut.trans (by repeat (first | (with_reducible first | exact HK.out | apply yK | apply zk | apply zl9 | apply zm | refine keep_far ?_ GW166.out _ | refine keep_far ?_ GW167.out _) | exact HK.out)) hk (.inl rfl))
              have n7_ := yM (hb)
              have n8_ := yM (hi)
              clear HO_168004
              clear HO_168005
              clear BK166
              clear BK167
              clear HK
              clear HB
              clear HI0
              have HO_168004 := n0_
              have HO_168005 := n1_
              have BK166 := n2_
              have BK167 := n3_
              have HO192 := n4_
              have HO195 := n5_
              have HK := n6_
              have HB := n7_
              have HI0 := n8_
              clear n0_ n1_ n2_ n3_ n4_ n5_ n6_ n7_ n8_
              (try clear hb)
              (try clear hb2)
              (try clear hk)
              (try clear hi)
              (try clear ho0)
              (try clear ho1)
              obtain ⟨Ao50, co50, eo50⟩ := Kd.R_slice HO192.out
              (first | subst eo50 | (injection eo50 with f1_ f2_ f3_; have f4_ := f1_.symm; have f5_ := f3_.symm; clear f1_ f2_ f3_; subst f4_; subst f5_))
              obtain ⟨Ao51, co51, eo51⟩ := Kd.R_slice HO195.out
              (first | subst eo51 | (injection eo51 with f1_ f2_ f3_; have f4_ := f1_.symm; have f5_ := f3_.symm; clear f1_ f2_ f3_; subst f4_; subst f5_))
              refine hK.out _ _ ⟨(yC BK167.out 0).trans rfl, (yC BK167.out 1).trans rfl, (yC BK167.out 2).trans rfl, (yC BK167.out 3).trans rfl, (yC BK167.out 4).trans rfl, (yC BK167.out 5).trans rfl⟩ (fun hHeld => ?_)
              clear hK K
              refine norm_ (a' := ?_) ?_ ?_
              rotate_left
              ·show Act.put _ (some 70) _ = _
               simp only [Act.put, yX, yY, yZ, i64_w, i32_w]
               rfl
              refine one_ (i := 4) (N := some 71) #[true, true, true, true, true, false, false, false] rfl rfl (one_of HT_.out (by kernel_rfl)) (by decide) (fun K hK => ?_)
              refine value_ (w1 := ?_) (v := ?_) (by rfl) rfl ?_ ?_
              rotate_left 2
              ·go_simp
               constructor
               ·rfl
               ·rfl
              refine hK.out _ _ ⟨(yC (yA BK167.out _) 0).trans rfl, (yC (yA BK167.out _) 1).trans rfl, (yC (yA BK167.out _) 2).trans rfl, (yC (yA BK167.out _) 3).trans rfl, (yC (yA BK167.out _) 4).trans rfl, (yC (yA BK167.out _) 5).trans rfl⟩ (fun hHeld => ?_)
              clear hK K
              refine norm_ (a' := ?_) ?_ ?_
              rotate_left
              ·show Act.put _ (some 71) _ = _
               simp only [Act.put, yX, yY, yZ, i64_w, i32_w]
               rfl
              refine one_ (i := 5) (N := some 72) #[true, true, true, true, true, true, false, false] rfl rfl (one_of HT_.out (by kernel_rfl)) (by decide) (fun K hK => ?_)
              refine Kd.R_append_step k67 w.heap.size (by rfl) (.tmp 68) (.tmp 71) 65 67 (.agg #[(.int .i64 0), (.int .i64 0), (.int .i64 0), (.string ⟨#[]⟩), (.slice none 0 0), (.slice none 0 0)]) 88 rfl Tryd.underlying65 info67 rfl (by decide) (by omega) u168004 x168004_2 (⟨t186, t187, t188, t189, t190, t193⟩ : S67) [.int .i64 t186, .int .i64 t187, .int .i64 t188, .string t189, .slice Ao50 t190.length co50, .slice Ao51 t193.length co51] (fun k_ => some k_ ≠ (u168005 : Value).ownBlock ∧ k_ ≠ gb166 ∧ k_ ≠ gb167) (fun k_ => ((fun k_ => some k_ ≠ (u168005 : Value).ownBlock ∧ k_ ≠ gb166 ∧ k_ ≠ gb167)) k_ ∧ some k_ ≠ (u168004 : Value).ownBlock) rfl rfl ?aP (fun _ hk => hk) ?aF ?aO (Below.refl _ _) ?aS ?aL ?_
              (case aP => exact k67_mkM _ _ _ (⟨t186, t187, t188, t189, t190, t193⟩ : S67) (Kd.R_mono (HO192.out) (fun k_ hk => ⟨⟨hk.1.1.2, ⟨hk.1.2, hk.2⟩⟩, hk.1.1.1.2⟩)) (Kd.R_mono (HO195.out) (fun k_ hk => ⟨⟨hk.1.1.2, ⟨hk.1.2, hk.2⟩⟩, hk.1.1.1.2⟩)))
              (case aF => exact (fun k_ hk => ⟨Kd.fresh' (Kd.R_lt (by (with_reducible repeat (first | apply Kd.R_alloc | apply Kd.R_drewN | apply Kd.R_drew)); exact HO_168005.out)) k_ hk, Kd.freshB (g := gb166) (o := .cells #[.int .i64 x167000_2, .int .i64 x167001_2, .int .i64 x167002_2, .string x167003_2, .slice none 0 0, .slice none 0 0] 67 (0, 0)) (by (with_reducible repeat (first | refine yN ?_ _ | refine yD ?_ | refine yA ?_ _)); exact BK166.out) k_ hk, Kd.freshB (g := gb167) (o := .cells #[.int .i64 x168000_3, .int .i64 s0_1, .int .i64 x168002_2, .string (⟨#[]⟩ : ByteArray), u168004, u168005] 67 (0, 0)) (by (with_reducible repeat (first | refine yN ?_ _ | refine yD ?_ | refine yA ?_ _)); exact BK167.out) k_ hk⟩))
              (case aO => exact (by (with_reducible repeat (first | apply Kd.R_alloc | apply Kd.R_drewN | apply Kd.R_drew)); exact Kd.R_mono HO_168004.out (fun _ hk => ⟨hk.1.1.1, ⟨hk.1.1.2.1, hk.1.1.2.2⟩⟩)))
              (case aS => exact (keep_size (w := w) (g := g) (row := none) (by repeat (first | (with_reducible first | exact HK.out | apply yK | apply zk | apply zl9 | apply zm | refine keep_far ?_ GW166.out _ | refine keep_far ?_ GW167.out _) | exact HK.out))))
              (case aL => have := LMc40.out; omega)
              intro v201 w49 ho hb hg hat
              rw [← Ny200.out] at ho
              have n0_ := yM (Kd.R_after (ok := (fun k_ => some k_ ≠ (.slice Ao50 t190.length co50 : Value).ownBlock ∧ some k_ ≠ (.slice Ao51 t193.length co51 : Value).ownBlock ∧ k_ ≠ gb166 ∧ k_ ≠ gb167)) (by (with_reducible repeat (first | apply Kd.R_alloc | apply Kd.R_drewN | apply Kd.R_drew)); exact Kd.R_mono HO_168005.out (fun _ hk => ⟨⟨hk.1.2, ⟨hk.2, ⟨hk.1.1.2.1, hk.1.1.2.2⟩⟩⟩, hk.1.1.1⟩)) hg hat)
              have n1_ := yM (blk_grown (g := gb166) (o := .cells #[.int .i64 x167000_2, .int .i64 x167001_2, .int .i64 x167002_2, .string x167003_2, .slice none 0 0, .slice none 0 0] 67 (0, 0)) (by (with_reducible repeat (first | refine yN ?_ _ | refine yD ?_ | refine yA ?_ _)); exact BK166.out) hg (Kd.R_away HO_168004.out (fun _ hk => hk.1.1.2.1)))
              have n2_ := yM (blk_grown (g := gb167) (o := .cells #[.int .i64 x168000_3, .int .i64 s0_1, .int .i64 x168002_2, .string (⟨#[]⟩ : ByteArray), u168004, u168005] 67 (0, 0)) (by (with_reducible repeat (first | refine yN ?_ _ | refine yD ?_ | refine yA ?_ _)); exact BK167.out) hg (Kd.R_away HO_168004.out (fun _ hk => hk.1.1.2.2)))
              have n3_ := yM (IsS79.grown (by repeat (first | (with_reducible first | exact HI0.out | apply wA | apply wN | apply wD | apply w_0 | apply w_1 | apply w_2 | apply w_3 | refine wR ?_ NB0_166.out _ | refine wR ?_ NB0_167.out _) | exact HI0.out)) hg (IsS79.own_ne HI0.out HO_168004.out (by decide)))
              have n4_ := yM (below_weaken (by repeat (first | (with_reducible first | exact HB.out | apply zA | apply zN | apply zD | refine zq9 ?_ (wG HI0.out) | refine zq9 ?_ GE166.out | refine zq9 ?_ GE167.out) | exact HB.out)) HL.out hb)
              have n5_ := yM (KeepBut.trans (by repeat (first | (with_reducible first | exact HK.out | apply yK | apply zk | apply zl9 | apply zm | refine keep_far ?_ GW166.out _ | refine keep_far ?_ GW167.out _) | exact HK.out)) (KeepBut.of_grown hg g) (Kd.R_base2 HO_168004.out))
              have n6_ := yM (ho)
              clear HO_168005
              clear BK166
              clear BK167
              clear HI0
              clear HB
              clear HK
              clear HO_168004
              clear HO192
              clear HO195
              have HO_168005 := n0_
              have BK166 := n1_
              have BK167 := n2_
              have HI0 := n3_
              have HB := n4_
              have HK := n5_
              have HO202 := n6_
              clear n0_ n1_ n2_ n3_ n4_ n5_ n6_
              clear ho hb hg hat
              obtain ⟨Ao52, co52, eo52⟩ := Kd.R_slice HO202.out
              (first | subst eo52 | (injection eo52 with f1_ f2_ f3_; have f4_ := f1_.symm; have f5_ := f3_.symm; clear f1_ f2_ f3_; subst f4_; subst f5_))
              refine hK.out _ _ ⟨(yC BK167.out 0).trans rfl, (yC BK167.out 1).trans rfl, (yC BK167.out 2).trans rfl, (yC BK167.out 3).trans rfl, (yC BK167.out 4).trans rfl, (yC BK167.out 5).trans rfl⟩ (fun hHeld => ?_)
              clear hK K
              refine norm_ (a' := ?_) ?_ ?_
              rotate_left
              ·show Act.put _ (some 72) _ = _
               simp only [Act.put, yX, yY, yZ, i64_w, i32_w]
               rfl
              refine pure_ (i := 6) (N := some 73) (v := ?_) (a' := ?_) #[true, true, true, true, true, true, true, false] rfl rfl (any_of HT_.out (by kernel_rfl)) (fun _ _ _ h => h) (Or.inl ⟨by rfl, ?_⟩) ?_ ?_
              rotate_left
              ·intro w'
               go_simp
               with_reducible rfl
              rotate_left
              ·simp only [Act.put, yX, yY, yZ, i64_w, i32_w]
               rfl
              refine last_ (i := 7) (N := none) #[true, true, true, true, true, true, true, true] rfl rfl (one_of HT_.out (by kernel_rfl)) (by decide) (fun K hK => ?_)
              have hs53 : w49.cell? ⟨gb167, 4, none⟩ = some (u168004) := (yC BK167.out 4).trans rfl
              have hfs53 := yF BK167.out 4
              have hns53_0 := NB166_167.out
              have hms53_0 := NB167_166.out
              refine skip_ (w1 := ?_) (by rfl) rfl ?_ ?_
              rotate_left
              ·go_simp
               rfl
              refine hK.out _ _ ?_
              clear hK K
              refine done_ (done_of HT_.out (by kernel_rfl)) ?_
              obtain ⟨HGz54, hgz54⟩ := HI0.out
              have hcz54_0 := cellS79_0 HGz54
              have hcz54_1 := cellS79_1 HGz54
              have hcz54_2 := cellS79_2 HGz54
              have hcz54_3 := cellS79_3 HGz54
              have hfz54_0 := yF HGz54 0
              have hfz54_1 := yF HGz54 1
              have hfz54_2 := yF HGz54 2
              have hfz54_3 := yF HGz54 3
              clear HGz54 hgz54
              try go_wp2
              have n0_ : Aside0 (Kd.R k67 67 (w49.setCell ⟨gb167, 4, none⟩ (.slice Ao52 y200.length co52)) w.heap.size (fun k_ => some k_ ≠ (.slice Ao52 y200.length co52 : Value).ownBlock ∧ k_ ≠ gb166 ∧ k_ ≠ gb167) u168005 x168005_2) := ⟨by (with_reducible repeat (first | apply Kd.R_alloc | apply Kd.R_drewN | apply Kd.R_drew)); exact Kd.R_mono (Kd.R_far (p := ⟨gb167, 4, none⟩) (Kd.R_mono HO_168005.out (fun k_ hk => (⟨hk, hk.1.2.2.2⟩ : _ ∧ k_ ≠ gb167))) (fun _ hk => hk.2) (.slice Ao52 y200.length co52)) (fun _ hk => ⟨hk.1.2, ⟨hk.1.1.2.2.1, hk.1.1.2.2.2⟩⟩)⟩
              have n1_ : Aside0 (Kd.R k67 67 (w49.setCell ⟨gb167, 4, none⟩ (.slice Ao52 y200.length co52)) w.heap.size (fun k_ => some k_ ≠ (u168005 : Value).ownBlock ∧ k_ ≠ gb166 ∧ k_ ≠ gb167) (.slice Ao52 y200.length co52) y200) := ⟨by (with_reducible repeat (first | apply Kd.R_alloc | apply Kd.R_drewN | apply Kd.R_drew)); exact Kd.R_mono (Kd.R_far (p := ⟨gb167, 4, none⟩) (Kd.R_mono HO202.out (fun k_ hk => (⟨hk, hk.2.2⟩ : _ ∧ k_ ≠ gb167))) (fun _ hk => hk.2) (.slice Ao52 y200.length co52)) (fun _ hk => ⟨hk.1.1, ⟨hk.1.2.1, hk.1.2.2⟩⟩)⟩
              have n2_ : Aside0 ((w49.setCell ⟨gb167, 4, none⟩ (.slice Ao52 y200.length co52)).heap[gb166]? = some (.cells #[.int .i64 x167000_2, .int .i64 x167001_2, .int .i64 x167002_2, .string x167003_2, .slice none 0 0, .slice none 0 0] 67 (0, 0))) := ⟨by (with_reducible repeat (first | refine yN ?_ _ | refine yD ?_ | refine yA ?_ _)); refine yR ?_ NB166_167.out _; (with_reducible repeat (first | refine yN ?_ _ | refine yD ?_ | refine yA ?_ _)); exact BK166.out⟩
              have n3_ : Aside0 ((w49.setCell ⟨gb167, 4, none⟩ (.slice Ao52 y200.length co52)).heap[gb167]? = some (.cells #[.int .i64 x168000_3, .int .i64 s0_1, .int .i64 x168002_2, .string (⟨#[]⟩ : ByteArray), .slice Ao52 y200.length co52, u168005] 67 (0, 0))) := ⟨by (with_reducible repeat (first | refine yN ?_ _ | refine yD ?_ | refine yA ?_ _)); refine blk_put (cs := #[.int .i64 x168000_3, .int .i64 s0_1, .int .i64 x168002_2, .string (⟨#[]⟩ : ByteArray), u168004, u168005]) ?_ 4 _ rfl; (with_reducible repeat (first | refine yN ?_ _ | refine yD ?_ | refine yA ?_ _)); exact BK167.out⟩
              have n4_ : Aside0 (IsS79 w0 (w49.setCell ⟨gb167, 4, none⟩ (.slice Ao52 y200.length co52)) g t196 t197 t198 t199) := ⟨by repeat (first | (with_reducible first | exact HI0.out | apply wA | apply wN | apply wD | apply w_0 | apply w_1 | apply w_2 | apply w_3 | refine wR ?_ NB0_166.out _ | refine wR ?_ NB0_167.out _) | exact HI0.out)⟩
              have n5_ : Aside0 (KeepBut w (w49.setCell ⟨gb167, 4, none⟩ (.slice Ao52 y200.length co52)) g none) := ⟨by repeat (first | (with_reducible first | exact HK.out | apply yK | apply zk | apply zl9 | apply zm | refine keep_far ?_ GW166.out _ | refine keep_far ?_ GW167.out _) | exact HK.out)⟩
              have n6_ : Aside0 (Below w0.heap.size w0 (w49.setCell ⟨gb167, 4, none⟩ (.slice Ao52 y200.length co52))) := ⟨by repeat (first | (with_reducible first | exact HB.out | apply zA | apply zN | apply zD | refine zq9 ?_ (wG HI0.out) | refine zq9 ?_ GE166.out | refine zq9 ?_ GE167.out) | exact HB.out)⟩
              (try clear HO_168005)
              (try clear HO202)
              (try clear BK166)
              (try clear BK167)
              (try clear HI0)
              (try clear HK)
              (try clear HB)
              generalize (w49.setCell ⟨gb167, 4, none⟩ (.slice Ao52 y200.length co52)) = w55 at n0_ n1_ n2_ n3_ n4_ n5_ n6_ ⊢
              have HO_168005 := n0_
              have HO202 := n1_
              have BK166 := n2_
              have BK167 := n3_
              have HI0 := n4_
              have HK := n5_
              have HB := n6_
              clear n0_ n1_ n2_ n3_ n4_ n5_ n6_
              have n0_ := yM (Kd.R_drew HO_168005.out)
              have n1_ := yM (Kd.R_drew HO202.out)
              have n2_ := yM (yD BK166.out)
              have n3_ := yM (yD BK167.out)
              have n4_ := yM (wD HI0.out)
              have n5_ := yM (zl9 HK.out)
              have n6_ := yM (zD HB.out)
              clear HO_168005
              clear HO202
              clear BK166
              clear BK167
              clear HI0
              clear HK
              clear HB
              have HO_168005 := n0_
              have HO202 := n1_
              have BK166 := n2_
              have BK167 := n3_
              have HI0 := n4_
              have HK := n5_
              have HB := n6_
              clear n0_ n1_ n2_ n3_ n4_ n5_ n6_
              refine start_ (n := 9) (S := fun w' => w'.cell? ⟨gb167, 0, none⟩ = some (.int .i64 x168000_3) ∧ w'.cell? ⟨gb167, 1, none⟩ = some (.int .i64 s0_1) ∧ w'.cell? ⟨gb167, 2, none⟩ = some (.int .i64 x168002_2) ∧ w'.cell? ⟨gb167, 3, none⟩ = some (.string (⟨#[]⟩ : ByteArray)) ∧ w'.cell? ⟨gb167, 4, none⟩ = some (.slice Ao52 y200.length co52) ∧ w'.cell? ⟨gb167, 5, none⟩ = some (u168005)) (ds := [8]) #[false, false, false, false, false, false, false, false, false] (by kernel_rfl) rfl rfl ⟨(yC BK167.out 0).trans rfl, (yC BK167.out 1).trans rfl, (yC BK167.out 2).trans rfl, (yC BK167.out 3).trans rfl, (yC BK167.out 4).trans rfl, (yC BK167.out 5).trans rfl⟩ (fun hHeld => ?_); refine with_tabW T_inside.tab24 T_inside.bits24 (fun HT_ HW_ => ?_)
              generalize w55.drew = w56 at HO_168005 HO202 BK166 BK167 HI0 HK HB hHeld ⊢
              refine pure_ (i := 0) (N := some 79) (v := ?_) (a' := ?_) #[true, false, false, false, false, false, false, false, false] rfl rfl (any_of HT_.out (by kernel_rfl)) (fun _ _ _ h => h) (Or.inl ⟨by rfl, ?_⟩) ?_ ?_
              rotate_left
              ·intro w'
               go_simp
               with_reducible rfl
              rotate_left
              ·simp only [Act.put, yX, yY, yZ, i64_w, i32_w]
               rfl
              refine pure_ (i := 2) (N := some 81) (v := ?_) (a' := ?_) #[true, false, true, false, false, false, false, false, false] rfl rfl (any_of HT_.out (by kernel_rfl)) (fun _ _ _ h => h) (Or.inl ⟨by rfl, ?_⟩) ?_ ?_
              rotate_left
              ·intro w'
               go_simp
               with_reducible rfl
              rotate_left
              ·simp only [Act.put, yX, yY, yZ, i64_w, i32_w]
               rfl
              refine pure_ (i := 3) (N := some 82) (v := ?_) (a' := ?_) #[true, false, true, true, false, false, false, false, false] rfl rfl (any_of HT_.out (by kernel_rfl)) (fun _ _ _ h => h) (Or.inl ⟨by rfl, ?_⟩) ?_ ?_
              rotate_left
              ·intro w'
               go_simp
               with_reducible rfl
              rotate_left
              ·simp only [Act.put, yX, yY, yZ, i64_w, i32_w]
               rfl
              refine take_ (i := 1) (N := some 80) (v := ?_) (a' := ?_) #[true, true, true, true, false, false, false, false, false] rfl rfl (take_ofW HT_.out HW_.out (by kernel_rfl)) (fun _ _ _ h => h) (Or.inl ⟨by rfl, ?_⟩) hHeld ?_ ?_
              rotate_left
              ·rintro w' ⟨s0, s1, s2, s3, s4, s5⟩
               go_simp
               with_reducible rfl
              rotate_left
              ·simp only [Act.put, yX, yY, yZ, i64_w, i32_w]
               rfl
              refine one_ (i := 4) (N := some 83) #[true, true, true, true, true, false, false, false, false] rfl rfl (one_of HT_.out (by kernel_rfl)) (by decide) (fun K hK => ?_)
              refine goes_ Tryd.func32 (by kernel_rfl) rfl #[.pointer (some ⟨g, 0, none⟩), .int .i64 a2] (by rfl) rfl rfl (by (try simp only [List.map_toArray, List.map_cons, List.map_nil]); first | done | rfl | (simp only [List.length_drop, List.length_take]; rfl)) ?_
              with_reducible refine (HV.out kj28 g t196 t197 t198 t199 t203 t204 t205 t206 t207 t210 t213 t214 t215 t216 w0 _ ?side1 ?side2 A42.out).mono ?_
              (case side1 => repeat (first | (with_reducible first | exact HI0.out | apply wA | apply wN | apply wD | apply w_0 | apply w_1 | apply w_2 | apply w_3 | refine wR ?_ NB0_166.out _ | refine wR ?_ NB0_167.out _) | exact HI0.out))
              (case side2 => repeat (first | (with_reducible first | exact HB.out | apply zA | apply zN | apply zD | refine zq9 ?_ (wG HI0.out) | refine zq9 ?_ GE166.out | refine zq9 ?_ GE167.out) | exact HB.out))
              rintro e w57 ⟨v208, v211, rfl, ho0, ho1, hi, hb, hk⟩
              refine ⟨_, rfl, ?_⟩
              have n0_ := yM (Kd.R_mono (Kd.R_told (Kd.R_told (Kd.R_oldK (IsS79.apart (show IsS79 w0 _ g t196 t197 t198 t199 from by repeat (first | (with_reducible first | exact HI0.out | apply wA | apply wN | apply wD | apply w_0 | apply w_1 | apply w_2 | apply w_3 | refine wR ?_ NB0_166.out _ | refine wR ?_ NB0_167.out _) | exact HI0.out)) (by (with_reducible repeat (first | apply Kd.R_alloc | apply Kd.R_drewN | apply Kd.R_drew)); exact HO_168005.out) (by decide)) hk) (Kd.R_base ho0)) (Kd.R_base ho1)) (fun _ h_ => h_.1))
              have n1_ := yM (KeepBut.blk hk (g' := gb166) (o := .cells #[.int .i64 x167000_2, .int .i64 x167001_2, .int .i64 x167002_2, .string x167003_2, .slice none 0 0, .slice none 0 0] 67 (0, 0)) (by (with_reducible repeat (first | refine yN ?_ _ | refine yD ?_ | refine yA ?_ _)); exact BK166.out) NB166_0.out (by simp))
              have n2_ := yM (KeepBut.blk hk (g' := gb167) (o := .cells #[.int .i64 x168000_3, .int .i64 s0_1, .int .i64 x168002_2, .string (⟨#[]⟩ : ByteArray), .slice Ao52 y200.length co52, u168005] 67 (0, 0)) (by (with_reducible repeat (first | refine yN ?_ _ | refine yD ?_ | refine yA ?_ _)); exact BK167.out) NB167_0.out (by simp))
              have n3_ := yM (Kd.R_mono (Kd.R_told (Kd.R_told (Kd.R_oldK (IsS79.apart (show IsS79 w0 _ g t196 t197 t198 t199 from by repeat (first | (with_reducible first | exact HI0.out | apply wA | apply wN | apply wD | apply w_0 | apply w_1 | apply w_2 | apply w_3 | refine wR ?_ NB0_166.out _ | refine wR ?_ NB0_167.out _) | exact HI0.out)) (by (with_reducible repeat (first | apply Kd.R_alloc | apply Kd.R_drewN | apply Kd.R_drew)); exact HO202.out) (by decide)) hk) (Kd.R_base ho0)) (Kd.R_base ho1)) (fun _ h_ => h_.1))
              have n4_ := yM (Kd.R_lower (Kd.R_newB (Kd.R_newB (Kd.R_new' (Kd.R_new' ho0 (Kd.R_lt (by (with_reducible repeat (first | apply Kd.R_alloc | apply Kd.R_drewN | apply Kd.R_drew)); exact HO_168005.out))) (Kd.R_lt (by (with_reducible repeat (first | apply Kd.R_alloc | apply Kd.R_drewN | apply Kd.R_drew)); exact HO202.out))) (g := gb166) (o := .cells #[.int .i64 x167000_2, .int .i64 x167001_2, .int .i64 x167002_2, .string x167003_2, .slice none 0 0, .slice none 0 0] 67 (0, 0)) (by (with_reducible repeat (first | refine yN ?_ _ | refine yD ?_ | refine yA ?_ _)); exact BK166.out)) (g := gb167) (o := .cells #[.int .i64 x168000_3, .int .i64 s0_1, .int .i64 x168002_2, .string (⟨#[]⟩ : ByteArray), .slice Ao52 y200.length co52, u168005] 67 (0, 0)) (by (with_reducible repeat (first | refine yN ?_ _ | refine yD ?_ | refine yA ?_ _)); exact BK167.out)) (keep_size (w := w) (g := g) (row := none) (by repeat (first | (with_reducible first | exact HK.out | apply yK | apply zk | apply zl9 | apply zm | refine keep_far ?_ GW166.out _ | refine keep_far ?_ GW167.out _) | exact HK.out))))
              have n5_ := yM (Kd.R_lower (Kd.R_newB (Kd.R_newB (Kd.R_new' (Kd.R_new' ho1 (Kd.R_lt (by (with_reducible repeat (first | apply Kd.R_alloc | apply Kd.R_drewN | apply Kd.R_drew)); exact HO_168005.out))) (Kd.R_lt (by (with_reducible repeat (first | apply Kd.R_alloc | apply Kd.R_drewN | apply Kd.R_drew)); exact HO202.out))) (g := gb166) (o := .cells #[.int .i64 x167000_2, .int .i64 x167001_2, .int .i64 x167002_2, .string x167003_2, .slice none 0 0, .slice none 0 0] 67 (0, 0)) (by (with_reducible repeat (first | refine yN ?_ _ | refine yD ?_ | refine yA ?_ _)); exact BK166.out)) (g := gb167) (o := .cells #[.int .i64 x168000_3, .int .i64 s0_1, .int .i64 x168002_2, .string (⟨#[]⟩ : ByteArray), .slice Ao52 y200.length co52, u168005] 67 (0, 0)) (by (with_reducible repeat (first | refine yN ?_ _ | refine yD ?_ | refine yA ?_ _)); exact BK167.out)) (keep_size (w := w) (g := g) (row := none) (by repeat (first | (with_reducible first | exact HK.out | apply yK | apply zk | apply zl9 | apply zm | refine keep_far ?_ GW166.out _ | refine keep_far ?_ GW167.out _) | exact HK.out))))
              have n6_ := yM (KeepBut.trans (by repeat (first | (with_reducible first | exact HK.out | apply yK | apply zk | apply zl9 | apply zm | refine keep_far ?_ GW166.out _ | refine keep_far ?_ GW167.out _) | exact HK.out)) hk (.inl rfl))
              have n7_ := yM (hb)
              have n8_ := yM (hi)
              clear HO_168005
              clear BK166
              clear BK167
              clear HO202
              clear HK
              clear HB
              clear HI0
              have HO_168005 := n0_
              have BK166 := n1_
              have BK167 := n2_
              have HO202 := n3_
              have HO209 := n4_
              have HO212 := n5_
              have HK := n6_
              have HB := n7_
              have HI0 := n8_
              clear n0_ n1_ n2_ n3_ n4_ n5_ n6_ n7_ n8_
              (try clear hb)
              (try clear hb2)
              (try clear hk)
              (try clear hi)
              (try clear ho0)
              (try clear ho1)
              obtain ⟨Ao59, co59, eo59⟩ := Kd.R_slice HO209.out
              (first | subst eo59 | (injection eo59 with f1_ f2_ f3_; have f4_ := f1_.symm; have f5_ := f3_.symm; clear f1_ f2_ f3_; subst f4_; subst f5_))
              obtain ⟨Ao60, co60, eo60⟩ := Kd.R_slice HO212.out
              (first | subst eo60 | (injection eo60 with f1_ f2_ f3_; have f4_ := f1_.symm; have f5_ := f3_.symm; clear f1_ f2_ f3_; subst f4_; subst f5_))
              refine hK.out _ _ ⟨(yC BK167.out 0).trans rfl, (yC BK167.out 1).trans rfl, (yC BK167.out 2).trans rfl, (yC BK167.out 3).trans rfl, (yC BK167.out 4).trans rfl, (yC BK167.out 5).trans rfl⟩ (fun hHeld => ?_)
              clear hK K
              refine norm_ (a' := ?_) ?_ ?_
              rotate_left
              ·show Act.put _ (some 83) _ = _
               simp only [Act.put, yX, yY, yZ, i64_w, i32_w]
               rfl
              refine one_ (i := 5) (N := some 84) #[true, true, true, true, true, true, false, false, false] rfl rfl (one_of HT_.out (by kernel_rfl)) (by decide) (fun K hK => ?_)
              refine value_ (w1 := ?_) (v := ?_) (by rfl) rfl ?_ ?_
              rotate_left 2
              ·go_simp
               constructor
               ·rfl
               ·rfl
              refine hK.out _ _ ⟨(yC (yA BK167.out _) 0).trans rfl, (yC (yA BK167.out _) 1).trans rfl, (yC (yA BK167.out _) 2).trans rfl, (yC (yA BK167.out _) 3).trans rfl, (yC (yA BK167.out _) 4).trans rfl, (yC (yA BK167.out _) 5).trans rfl⟩ (fun hHeld => ?_)
              clear hK K
              refine norm_ (a' := ?_) ?_ ?_
              rotate_left
              ·show Act.put _ (some 84) _ = _
               simp only [Act.put, yX, yY, yZ, i64_w, i32_w]
               rfl
              refine one_ (i := 6) (N := some 85) #[true, true, true, true, true, true, true, false, false] rfl rfl (one_of HT_.out (by kernel_rfl)) (by decide) (fun K hK => ?_)
              refine Kd.R_append_step k67 w.heap.size (by rfl) (.tmp 80) (.tmp 84) 65 67 (.agg #[(.int .i64 0), (.int .i64 0), (.int .i64 0), (.string ⟨#[]⟩), (.slice none 0 0), (.slice none 0 0)]) 88 rfl Tryd.underlying65 info67 rfl (by decide) (by omega) u168005 x168005_2 (⟨t203, t204, t205, t206, t207, t210⟩ : S67) [.int .i64 t203, .int .i64 t204, .int .i64 t205, .string t206, .slice Ao59 t207.length co59, .slice Ao60 t210.length co60] (fun k_ => some k_ ≠ (.slice Ao52 y200.length co52 : Value).ownBlock ∧ k_ ≠ gb166 ∧ k_ ≠ gb167) (fun k_ => ((fun k_ => some k_ ≠ (.slice Ao52 y200.length co52 : Value).ownBlock ∧ k_ ≠ gb166 ∧ k_ ≠ gb167)) k_ ∧ some k_ ≠ (u168005 : Value).ownBlock) rfl rfl ?aP (fun _ hk => hk) ?aF ?aO (Below.refl _ _) ?aS ?aL ?_
              (case aP => exact k67_mkM _ _ _ (⟨t203, t204, t205, t206, t207, t210⟩ : S67) (Kd.R_mono (HO209.out) (fun k_ hk => ⟨⟨hk.1.1.2, ⟨hk.1.2, hk.2⟩⟩, hk.1.1.1.2⟩)) (Kd.R_mono (HO212.out) (fun k_ hk => ⟨⟨hk.1.1.2, ⟨hk.1.2, hk.2⟩⟩, hk.1.1.1.2⟩)))
              (case aF => exact (fun k_ hk => ⟨Kd.fresh' (Kd.R_lt (by (with_reducible repeat (first | apply Kd.R_alloc | apply Kd.R_drewN | apply Kd.R_drew)); exact HO202.out)) k_ hk, Kd.freshB (g := gb166) (o := .cells #[.int .i64 x167000_2, .int .i64 x167001_2, .int .i64 x167002_2, .string x167003_2, .slice none 0 0, .slice none 0 0] 67 (0, 0)) (by (with_reducible repeat (first | refine yN ?_ _ | refine yD ?_ | refine yA ?_ _)); exact BK166.out) k_ hk, Kd.freshB (g := gb167) (o := .cells #[.int .i64 x168000_3, .int .i64 s0_1, .int .i64 x168002_2, .string (⟨#[]⟩ : ByteArray), .slice Ao52 y200.length co52, u168005] 67 (0, 0)) (by (with_reducible repeat (first | refine yN ?_ _ | refine yD ?_ | refine yA ?_ _)); exact BK167.out) k_ hk⟩))
              (case aO => exact (by (with_reducible repeat (first | apply Kd.R_alloc | apply Kd.R_drewN | apply Kd.R_drew)); exact Kd.R_mono HO_168005.out (fun _ hk => ⟨hk.1.1.1, ⟨hk.1.1.2.1, hk.1.1.2.2⟩⟩)))
              (case aS => exact (keep_size (w := w) (g := g) (row := none) (by repeat (first | (with_reducible first | exact HK.out | apply yK | apply zk | apply zl9 | apply zm | refine keep_far ?_ GW166.out _ | refine keep_far ?_ GW167.out _) | exact HK.out))))
              (case aL => have := LMc43.out; omega)
              intro v218 w58 ho hb hg hat
              rw [← Ny217.out] at ho
              have n0_ := yM (blk_grown (g := gb166) (o := .cells #[.int .i64 x167000_2, .int .i64 x167001_2, .int .i64 x167002_2, .string x167003_2, .slice none 0 0, .slice none 0 0] 67 (0, 0)) (by (with_reducible repeat (first | refine yN ?_ _ | refine yD ?_ | refine yA ?_ _)); exact BK166.out) hg (Kd.R_away HO_168005.out (fun _ hk => hk.1.1.2.1)))
              have n1_ := yM (blk_grown (g := gb167) (o := .cells #[.int .i64 x168000_3, .int .i64 s0_1, .int .i64 x168002_2, .string (⟨#[]⟩ : ByteArray), .slice Ao52 y200.length co52, u168005] 67 (0, 0)) (by (with_reducible repeat (first | refine yN ?_ _ | refine yD ?_ | refine yA ?_ _)); exact BK167.out) hg (Kd.R_away HO_168005.out (fun _ hk => hk.1.1.2.2)))
              have n2_ := yM (IsS79.grown (by repeat (first | (with_reducible first | exact HI0.out | apply wA | apply wN | apply wD | apply w_0 | apply w_1 | apply w_2 | apply w_3 | refine wR ?_ NB0_166.out _ | refine wR ?_ NB0_167.out _) | exact HI0.out)) hg (IsS79.own_ne HI0.out HO_168005.out (by decide)))
              have n3_ := yM (Kd.R_after (ok := (fun k_ => some k_ ≠ (.slice Ao59 t207.length co59 : Value).ownBlock ∧ some k_ ≠ (.slice Ao60 t210.length co60 : Value).ownBlock ∧ k_ ≠ gb166 ∧ k_ ≠ gb167)) (by (with_reducible repeat (first | apply Kd.R_alloc | apply Kd.R_drewN | apply Kd.R_drew)); exact Kd.R_mono HO202.out (fun _ hk => ⟨⟨hk.1.2, ⟨hk.2, ⟨hk.1.1.2.1, hk.1.1.2.2⟩⟩⟩, hk.1.1.1⟩)) hg hat)
              have n4_ := yM (below_weaken (by repeat (first | (with_reducible first | exact HB.out | apply zA | apply zN | apply zD | refine zq9 ?_ (wG HI0.out) | refine zq9 ?_ GE166.out | refine zq9 ?_ GE167.out) | exact HB.out)) HL.out hb)
              have n5_ := yM (KeepBut.trans (by repeat (first | (with_reducible first | exact HK.out | apply yK | apply zk | apply zl9 | apply zm | refine keep_far ?_ GW166.out _ | refine keep_far ?_ GW167.out _) | exact HK.out)) (KeepBut.of_grown hg g) (Kd.R_base2 HO_168005.out))
              have n6_ := yM (ho)
              clear BK166
              clear BK167
              clear HI0
              clear HO202
              clear HB
              clear HK
              clear HO_168005
              clear HO209
              clear HO212
              have BK166 := n0_
              have BK167 := n1_
              have HI0 := n2_
              have HO202 := n3_
              have HB := n4_
              have HK := n5_
              have HO219 := n6_
              clear n0_ n1_ n2_ n3_ n4_ n5_ n6_
              clear ho hb hg hat
              obtain ⟨Ao61, co61, eo61⟩ := Kd.R_slice HO219.out
              (first | subst eo61 | (injection eo61 with f1_ f2_ f3_; have f4_ := f1_.symm; have f5_ := f3_.symm; clear f1_ f2_ f3_; subst f4_; subst f5_))
              refine hK.out _ _ ⟨(yC BK167.out 0).trans rfl, (yC BK167.out 1).trans rfl, (yC BK167.out 2).trans rfl, (yC BK167.out 3).trans rfl, (yC BK167.out 4).trans rfl, (yC BK167.out 5).trans rfl⟩ (fun hHeld => ?_)
              clear hK K
              refine norm_ (a' := ?_) ?_ ?_
              rotate_left
              ·show Act.put _ (some 85) _ = _
               simp only [Act.put, yX, yY, yZ, i64_w, i32_w]
               rfl
              refine pure_ (i := 7) (N := some 86) (v := ?_) (a' := ?_) #[true, true, true, true, true, true, true, true, false] rfl rfl (any_of HT_.out (by kernel_rfl)) (fun _ _ _ h => h) (Or.inl ⟨by rfl, ?_⟩) ?_ ?_
              rotate_left
              ·intro w'
               go_simp
               with_reducible rfl
              rotate_left
              ·simp only [Act.put, yX, yY, yZ, i64_w, i32_w]
               rfl
              refine last_ (i := 8) (N := none) #[true, true, true, true, true, true, true, true, true] rfl rfl (one_of HT_.out (by kernel_rfl)) (by decide) (fun K hK => ?_)
              have hs62 : w58.cell? ⟨gb167, 5, none⟩ = some (u168005) := (yC BK167.out 5).trans rfl
              have hfs62 := yF BK167.out 5
              have hns62_0 := NB166_167.out
              have hms62_0 := NB167_166.out
              refine skip_ (w1 := ?_) (by rfl) rfl ?_ ?_
              rotate_left
              ·go_simp
               rfl
              refine hK.out _ _ ?_
              clear hK K
              refine done_ (done_of HT_.out (by kernel_rfl)) ?_
              try go_wp2
              go_roundg kj28
              case measure => have := HJ3.out; have := HK2.out; have := HJ28.out; omega
              case rel => exact ⟨(false), (t213), (t214), (t215), (t216), (x167000_2), (x167001_2), (x167002_2), (x167003_2), (x168002_2), (y200), (y217), (.slice Ao52 y200.length co52), (.slice Ao61 y217.length co61), (by first | rfl | (simp; done) | (simp [*]; done)), H', ⟨by have := HJ3.out; have := HK2.out; have := HJ28.out; omega⟩, ⟨by (with_reducible repeat (first | apply Kd.R_alloc | apply Kd.R_drewN | apply Kd.R_drew)); exact Kd.R_mono (Kd.R_far (p := ⟨gb167, 5, none⟩) (Kd.R_mono HO202.out (fun k_ hk => (⟨hk, hk.1.2.2.2⟩ : _ ∧ k_ ≠ gb167))) (fun _ hk => hk.2) (.slice Ao61 y217.length co61)) (fun _ hk => ⟨hk.1.2, ⟨hk.1.1.2.2.1, hk.1.1.2.2.2⟩⟩)⟩, ⟨by (with_reducible repeat (first | apply Kd.R_alloc | apply Kd.R_drewN | apply Kd.R_drew)); exact Kd.R_mono (Kd.R_far (p := ⟨gb167, 5, none⟩) (Kd.R_mono HO219.out (fun k_ hk => (⟨hk, hk.2.2⟩ : _ ∧ k_ ≠ gb167))) (fun _ hk => hk.2) (.slice Ao61 y217.length co61)) (fun _ hk => ⟨hk.1.1, ⟨hk.1.2.1, hk.1.2.2⟩⟩)⟩, ⟨by (with_reducible repeat (first | refine yN ?_ _ | refine yD ?_ | refine yA ?_ _)); refine yR ?_ NB166_167.out _; (with_reducible repeat (first | refine yN ?_ _ | refine yD ?_ | refine yA ?_ _)); exact BK166.out⟩, ⟨by (with_reducible repeat (first | refine yN ?_ _ | refine yD ?_ | refine yA ?_ _)); refine blk_put (cs := #[.int .i64 x168000_3, .int .i64 s0_1, .int .i64 x168002_2, .string (⟨#[]⟩ : ByteArray), .slice Ao52 y200.length co52, u168005]) ?_ 5 _ rfl; (with_reducible repeat (first | refine yN ?_ _ | refine yD ?_ | refine yA ?_ _)); exact BK167.out⟩, ⟨by repeat (first | (with_reducible first | exact HI0.out | apply wA | apply wN | apply wD | apply w_0 | apply w_1 | apply w_2 | apply w_3 | refine wR ?_ NB0_166.out _ | refine wR ?_ NB0_167.out _) | exact HI0.out)⟩, ⟨by repeat (first | (with_reducible first | exact HK.out | apply yK | apply zk | apply zl9 | apply zm | refine keep_far ?_ GW166.out _ | refine keep_far ?_ GW167.out _) | exact HK.out)⟩, ⟨by repeat (first | (with_reducible first | exact HB.out | apply zA | apply zN | apply zD | refine zq9 ?_ (wG HI0.out) | refine zq9 ?_ GE166.out | refine zq9 ?_ GE167.out) | exact HB.out)⟩⟩
             ·rw [if_neg c43] at H
              exact absurd H (by simp)
            ·rw [if_neg c41] at H
             have c41b0 : (t198 == 0) = false := yB c41
             have c41b1 : (t198 != 0) = true := bne_iff_ne.mpr c41
             have H' := yM H
             clear H
             have hnb63 := NB167_166.out
             have hnc63 := NB166_167.out
             have hnb64 := NB167_0.out
             have hnc64 := NB0_167.out
             have hcz65_0 : wc.cell? ⟨gb167, 0, none⟩ = some (.int .i64 x168000_3) := (yC BK167.out 0).trans rfl
             have hcz65_1 : wc.cell? ⟨gb167, 1, none⟩ = some (.int .i64 s0_1) := (yC BK167.out 1).trans rfl
             have hcz65_2 : wc.cell? ⟨gb167, 2, none⟩ = some (.int .i64 x168002_2) := (yC BK167.out 2).trans rfl
             have hcz65_3 : wc.cell? ⟨gb167, 3, none⟩ = some (.string (⟨#[]⟩ : ByteArray)) := (yC BK167.out 3).trans rfl
             have hcz65_4 : wc.cell? ⟨gb167, 4, none⟩ = some (u168004) := (yC BK167.out 4).trans rfl
             have hcz65_5 : wc.cell? ⟨gb167, 5, none⟩ = some (u168005) := (yC BK167.out 5).trans rfl
             have hfz65_0 := yF BK167.out 0
             have hfz65_1 := yF BK167.out 1
             have hfz65_2 := yF BK167.out 2
             have hfz65_3 := yF BK167.out 3
             have hfz65_4 := yF BK167.out 4
             have hfz65_5 := yF BK167.out 5
             try go_wp2
             have n0_ := yM (Kd.R_drew HO_168004.out)
             have n1_ := yM (Kd.R_drew HO_168005.out)
             have n2_ := yM (yD BK166.out)
             have n3_ := yM (yD BK167.out)
             have n4_ := yM (wD HI0.out)
             have n5_ := yM (zl9 HK.out)
             have n6_ := yM (zD HB.out)
             clear HO_168004
             clear HO_168005
             clear BK166
             clear BK167
             clear HI0
             clear HK
             clear HB
             have HO_168004 := n0_
             have HO_168005 := n1_
             have BK166 := n2_
             have BK167 := n3_
             have HI0 := n4_
             have HK := n5_
             have HB := n6_
             clear n0_ n1_ n2_ n3_ n4_ n5_ n6_
             refine start_ (n := 8) (S := fun w' => w'.cell? ⟨gb167, 0, none⟩ = some (.int .i64 x168000_3) ∧ w'.cell? ⟨gb167, 1, none⟩ = some (.int .i64 s0_1) ∧ w'.cell? ⟨gb167, 2, none⟩ = some (.int .i64 x168002_2) ∧ w'.cell? ⟨gb167, 3, none⟩ = some (.string (⟨#[]⟩ : ByteArray)) ∧ w'.cell? ⟨gb167, 4, none⟩ = some (u168004) ∧ w'.cell? ⟨gb167, 5, none⟩ = some (u168005)) (ds := [7]) #[false, false, false, false, false, false, false, false] (by kernel_rfl) rfl rfl ⟨(yC BK167.out 0).trans rfl, (yC BK167.out 1).trans rfl, (yC BK167.out 2).trans rfl, (yC BK167.out 3).trans rfl, (yC BK167.out 4).trans rfl, (yC BK167.out 5).trans rfl⟩ (fun hHeld => ?_); refine with_tabW T_inside.tab22 T_inside.bits22 (fun HT_ HW_ => ?_)
             generalize wc.drew = w66 at HO_168004 HO_168005 BK166 BK167 HI0 HK HB hHeld ⊢
             refine pure_ (i := 0) (N := some 67) (v := ?_) (a' := ?_) #[true, false, false, false, false, false, false, false] rfl rfl (any_of HT_.out (by kernel_rfl)) (fun _ _ _ h => h) (Or.inl ⟨by rfl, ?_⟩) ?_ ?_
             rotate_left
             ·intro w'
              go_simp
              with_reducible rfl
             rotate_left
             ·simp only [Act.put, yX, yY, yZ, i64_w, i32_w]
              rfl
             refine pure_ (i := 2) (N := some 69) (v := ?_) (a' := ?_) #[true, false, true, false, false, false, false, false] rfl rfl (any_of HT_.out (by kernel_rfl)) (fun _ _ _ h => h) (Or.inl ⟨by rfl, ?_⟩) ?_ ?_
             rotate_left
             ·intro w'
              go_simp
              with_reducible rfl
             rotate_left
             ·simp only [Act.put, yX, yY, yZ, i64_w, i32_w]
              rfl
             refine take_ (i := 1) (N := some 68) (v := ?_) (a' := ?_) #[true, true, true, false, false, false, false, false] rfl rfl (take_ofW HT_.out HW_.out (by kernel_rfl)) (fun _ _ _ h => h) (Or.inl ⟨by rfl, ?_⟩) hHeld ?_ ?_
             rotate_left
             ·rintro w' ⟨s0, s1, s2, s3, s4, s5⟩
              go_simp
              with_reducible rfl
             rotate_left
             ·simp only [Act.put, yX, yY, yZ, i64_w, i32_w]
              rfl
             refine one_ (i := 3) (N := some 70) #[true, true, true, true, false, false, false, false] rfl rfl (one_of HT_.out (by kernel_rfl)) (by decide) (fun K hK => ?_)
             refine goes_ Tryd.func63 (by kernel_rfl) rfl #[.pointer (some ⟨g, 0, none⟩)] (by rfl) rfl rfl (by (try simp only [List.map_toArray, List.map_cons, List.map_nil]); first | done | rfl | (simp only [List.length_drop, List.length_take]; rfl)) ?_
             with_reducible refine (T_name.calls kj28 g x1000_28 x1001_28 x1002_28 x1003_28 t186 t187 t188 t189 t190 t193 t196 t197 t198 t199 w0 _ ?side1 ?side2 A39.out).mono ?_
             (case side1 => repeat (first | (with_reducible first | exact HI0.out | apply wA | apply wN | apply wD | apply w_0 | apply w_1 | apply w_2 | apply w_3 | refine wR ?_ NB0_166.out _ | refine wR ?_ NB0_167.out _) | exact HI0.out))
             (case side2 => repeat (first | (with_reducible first | exact HB.out | apply zA | apply zN | apply zD | refine zq9 ?_ (wG HI0.out) | refine zq9 ?_ GE166.out | refine zq9 ?_ GE167.out) | exact HB.out))
             rintro e w67 ⟨v191, v194, rfl, ho0, ho1, hi, hb, hk⟩
             refine ⟨_, rfl, ?_⟩
             have n0_ := yM (Kd.R_mono (Kd.R_told (Kd.R_told (Kd.R_oldK (IsS79.apart (show IsS79 w0 _ g x1000_28 x1001_28 x1002_28 x1003_28 from by repeat (first | (with_reducible first | exact HI0.out | apply wA | apply wN | apply wD | apply w_0 | apply w_1 | apply w_2 | apply w_3 | refine wR ?_ NB0_166.out _ | refine wR ?_ NB0_167.out _) | exact HI0.out)) (by (with_reducible repeat (first | apply Kd.R_alloc | apply Kd.R_drewN | apply Kd.R_drew)); exact HO_168004.out) (by decide)) hk) (Kd.R_base ho0)) (Kd.R_base ho1)) (fun _ h_ => h_.1))
             have n1_ := yM (Kd.R_mono (Kd.R_told (Kd.R_told (Kd.R_oldK (IsS79.apart (show IsS79 w0 _ g x1000_28 x1001_28 x1002_28 x1003_28 from by repeat (first | (with_reducible first | exact HI0.out | apply wA | apply wN | apply wD | apply w_0 | apply w_1 | apply w_2 | apply w_3 | refine wR ?_ NB0_166.out _ | refine wR ?_ NB0_167.out _) | exact HI0.out)) (by (with_reducible repeat (first | apply Kd.R_alloc | apply Kd.R_drewN | apply Kd.R_drew)); exact HO_168005.out) (by decide)) hk) (Kd.R_base ho0)) (Kd.R_base ho1)) (fun _ h_ => h_.1))
             have n2_ := yM (KeepBut.blk hk (g' := gb166) (o := .cells #[.int .i64 x167000_2, .int .i64 x167001_2, .int .i64 x167002_2, .string x167003_2, .slice none 0 0, .slice none 0 0] 67 (0, 0)) (by (with_reducible repeat (first | refine yN ?_ _ | refine yD ?_ | refine yA ?_ _)); exact BK166.out) NB166_0.out (by simp))
             have n3_ := yM (KeepBut.blk hk (g' := gb167) (o := .cells #[.int .i64 x168000_3, .int .i64 s0_1, .int .i64 x168002_2, .string (⟨#[]⟩ : ByteArray), u168004, u168005] 67 (0, 0)) (by (with_reducible repeat (first | refine yN ?_ _ | refine yD ?_ | refine yA ?_ _)); exact BK167.out) NB167_0.out (by simp))
             have n4_ := yM (Kd.R_lower (Kd.R_newB (Kd.R_newB (Kd.R_new' (Kd.R_new' ho0 (Kd.R_lt (by (with_reducible repeat (first | apply Kd.R_alloc | apply Kd.R_drewN | apply Kd.R_drew)); exact HO_168004.out))) (Kd.R_lt (by (with_reducible repeat (first | apply Kd.R_alloc | apply Kd.R_drewN | apply Kd.R_drew)); exact HO_168005.out))) (g := gb166) (o := .cells #[.int .i64 x167000_2, .int .i64 x167001_2, .int .i64 x167002_2, .string x167003_2, .slice none 0 0, .slice none 0 0] 67 (0, 0)) (by (with_reducible repeat (first | refine yN ?_ _ | refine yD ?_ | refine yA ?_ _)); exact BK166.out)) (g := gb167) (o := .cells #[.int .i64 x168000_3, .int .i64 s0_1, .int .i64 x168002_2, .string (⟨#[]⟩ : ByteArray), u168004, u168005] 67 (0, 0)) (by (with_reducible repeat (first | refine yN ?_ _ | refine yD ?_ | refine yA ?_ _)); exact BK167.out)) (keep_size (w := w) (g := g) (row := none) (by repeat (first | (with_reducible first | exact HK.out | apply yK | apply zk | apply zl9 | apply zm | refine keep_far ?_ GW166.out _ | refine keep_far ?_ GW167.out _) | exact HK.out))))
             have n5_ := yM (Kd.R_lower (Kd.R_newB (Kd.R_newB (Kd.R_new' (Kd.R_new' ho1 (Kd.R_lt (by (with_reducible repeat (first | apply Kd.R_alloc | apply Kd.R_drewN | apply Kd.R_drew)); exact HO_168004.out))) (Kd.R_lt (by (with_reducible repeat (first | apply Kd.R_alloc | apply Kd.R_drewN | apply Kd.R_drew)); exact HO_168005.out))) (g := gb166) (o := .cells #[.int .i64 x167000_2, .int .i64 x167001_2, .int .i64 x167002_2, .string x167003_2, .slice none 0 0, .slice none 0 0] 67 (0, 0)) (by (with_reducible repeat (first | refine yN ?_ _ | refine yD ?_ | refine yA ?_ _)); exact BK166.out)) (g := gb167) (o := .cells #[.int .i64 x168000_3, .int .i64 s0_1, .int .i64 x168002_2, .string (⟨#[]⟩ : ByteArray), u168004, u168005] 67 (0, 0)) (by (with_reducible repeat (first | refine yN ?_ _ | refine yD ?_ | refine yA ?_ _)); exact BK167.out)) (keep_size (w := w) (g := g) (row := none) (by repeat (first | (with_reducible first | exact HK.out | apply yK | apply zk | apply zl9 | apply zm | refine keep_far ?_ GW166.out _ | refine keep_far ?_ GW167.out _) | exact HK.out))))
             have n6_ := yM (KeepBut.trans (by repeat (first | (with_reducible first | exact HK.out | apply yK | apply zk | apply zl9 | apply zm | refine keep_far ?_ GW166.out _ | refine keep_far ?_ GW167.out _) | exact HK.out)) hk (.inl rfl))
             have n7_ := yM (hb)
             have n8_ := yM (hi)
             clear HO_168004
             clear HO_168005
             clear BK166
             clear BK167
             clear HK
             clear HB
             clear HI0
             have HO_168004 := n0_
             have HO_168005 := n1_
             have BK166 := n2_
             have BK167 := n3_
             have HO192 := n4_
             have HO195 := n5_
             have HK := n6_
             have HB := n7_
             have HI0 := n8_
             clear n0_ n1_ n2_ n3_ n4_ n5_ n6_ n7_ n8_
             (try clear hb)
             (try clear hb2)
             (try clear hk)
             (try clear hi)
             (try clear ho0)
             (try clear ho1)
             obtain ⟨Ao69, co69, eo69⟩ := Kd.R_slice HO192.out
             (first | subst eo69 | (injection eo69 with f1_ f2_ f3_; have f4_ := f1_.symm; have f5_ := f3_.symm; clear f1_ f2_ f3_; subst f4_; subst f5_))
             obtain ⟨Ao70, co70, eo70⟩ := Kd.R_slice HO195.out
             (first | subst eo70 | (injection eo70 with f1_ f2_ f3_; have f4_ := f1_.symm; have f5_ := f3_.symm; clear f1_ f2_ f3_; subst f4_; subst f5_))
             refine hK.out _ _ ⟨(yC BK167.out 0).trans rfl, (yC BK167.out 1).trans rfl, (yC BK167.out 2).trans rfl, (yC BK167.out 3).trans rfl, (yC BK167.out 4).trans rfl, (yC BK167.out 5).trans rfl⟩ (fun hHeld => ?_)
             clear hK K
             refine norm_ (a' := ?_) ?_ ?_
             rotate_left
             ·show Act.put _ (some 70) _ = _
              simp only [Act.put, yX, yY, yZ, i64_w, i32_w]
              rfl
             refine one_ (i := 4) (N := some 71) #[true, true, true, true, true, false, false, false] rfl rfl (one_of HT_.out (by kernel_rfl)) (by decide) (fun K hK => ?_)
             refine value_ (w1 := ?_) (v := ?_) (by rfl) rfl ?_ ?_
             rotate_left 2
             ·go_simp
              constructor
              ·rfl
              ·rfl
             refine hK.out _ _ ⟨(yC (yA BK167.out _) 0).trans rfl, (yC (yA BK167.out _) 1).trans rfl, (yC (yA BK167.out _) 2).trans rfl, (yC (yA BK167.out _) 3).trans rfl, (yC (yA BK167.out _) 4).trans rfl, (yC (yA BK167.out _) 5).trans rfl⟩ (fun hHeld => ?_)
             clear hK K
             refine norm_ (a' := ?_) ?_ ?_
             rotate_left
             ·show Act.put _ (some 71) _ = _
              simp only [Act.put, yX, yY, yZ, i64_w, i32_w]
              rfl
             refine one_ (i := 5) (N := some 72) #[true, true, true, true, true, true, false, false] rfl rfl (one_of HT_.out (by kernel_rfl)) (by decide) (fun K hK => ?_)
             refine Kd.R_append_step k67 w.heap.size (by rfl) (.tmp 68) (.tmp 71) 65 67 (.agg #[(.int .i64 0), (.int .i64 0), (.int .i64 0), (.string ⟨#[]⟩), (.slice none 0 0), (.slice none 0 0)]) 88 rfl Tryd.underlying65 info67 rfl (by decide) (by omega) u168004 x168004_2 (⟨t186, t187, t188, t189, t190, t193⟩ : S67) [.int .i64 t186, .int .i64 t187, .int .i64 t188, .string t189, .slice Ao69 t190.length co69, .slice Ao70 t193.length co70] (fun k_ => some k_ ≠ (u168005 : Value).ownBlock ∧ k_ ≠ gb166 ∧ k_ ≠ gb167) (fun k_ => ((fun k_ => some k_ ≠ (u168005 : Value).ownBlock ∧ k_ ≠ gb166 ∧ k_ ≠ gb167)) k_ ∧ some k_ ≠ (u168004 : Value).ownBlock) rfl rfl ?aP (fun _ hk => hk) ?aF ?aO (Below.refl _ _) ?aS ?aL ?_
             (case aP => exact k67_mkM _ _ _ (⟨t186, t187, t188, t189, t190, t193⟩ : S67) (Kd.R_mono (HO192.out) (fun k_ hk => ⟨⟨hk.1.1.2, ⟨hk.1.2, hk.2⟩⟩, hk.1.1.1.2⟩)) (Kd.R_mono (HO195.out) (fun k_ hk => ⟨⟨hk.1.1.2, ⟨hk.1.2, hk.2⟩⟩, hk.1.1.1.2⟩)))
             (case aF => exact (fun k_ hk => ⟨Kd.fresh' (Kd.R_lt (by (with_reducible repeat (first | apply Kd.R_alloc | apply Kd.R_drewN | apply Kd.R_drew)); exact HO_168005.out)) k_ hk, Kd.freshB (g := gb166) (o := .cells #[.int .i64 x167000_2, .int .i64 x167001_2, .int .i64 x167002_2, .string x167003_2, .slice none 0 0, .slice none 0 0] 67 (0, 0)) (by (with_reducible repeat (first | refine yN ?_ _ | refine yD ?_ | refine yA ?_ _)); exact BK166.out) k_ hk, Kd.freshB (g := gb167) (o := .cells #[.int .i64 x168000_3, .int .i64 s0_1, .int .i64 x168002_2, .string (⟨#[]⟩ : ByteArray), u168004, u168005] 67 (0, 0)) (by (with_reducible repeat (first | refine yN ?_ _ | refine yD ?_ | refine yA ?_ _)); exact BK167.out) k_ hk⟩))
             (case aO => exact (by (with_reducible repeat (first | apply Kd.R_alloc | apply Kd.R_drewN | apply Kd.R_drew)); exact Kd.R_mono HO_168004.out (fun _ hk => ⟨hk.1.1.1, ⟨hk.1.1.2.1, hk.1.1.2.2⟩⟩)))
             (case aS => exact (keep_size (w := w) (g := g) (row := none) (by repeat (first | (with_reducible first | exact HK.out | apply yK | apply zk | apply zl9 | apply zm | refine keep_far ?_ GW166.out _ | refine keep_far ?_ GW167.out _) | exact HK.out))))
             (case aL => have := LMc40.out; omega)
             intro v201 w68 ho hb hg hat
             rw [← Ny200.out] at ho
             have n0_ := yM (Kd.R_after (ok := (fun k_ => some k_ ≠ (.slice Ao69 t190.length co69 : Value).ownBlock ∧ some k_ ≠ (.slice Ao70 t193.length co70 : Value).ownBlock ∧ k_ ≠ gb166 ∧ k_ ≠ gb167)) (by (with_reducible repeat (first | apply Kd.R_alloc | apply Kd.R_drewN | apply Kd.R_drew)); exact Kd.R_mono HO_168005.out (fun _ hk => ⟨⟨hk.1.2, ⟨hk.2, ⟨hk.1.1.2.1, hk.1.1.2.2⟩⟩⟩, hk.1.1.1⟩)) hg hat)
             have n1_ := yM (blk_grown (g := gb166) (o := .cells #[.int .i64 x167000_2, .int .i64 x167001_2, .int .i64 x167002_2, .string x167003_2, .slice none 0 0, .slice none 0 0] 67 (0, 0)) (by (with_reducible repeat (first | refine yN ?_ _ | refine yD ?_ | refine yA ?_ _)); exact BK166.out) hg (Kd.R_away HO_168004.out (fun _ hk => hk.1.1.2.1)))
             have n2_ := yM (blk_grown (g := gb167) (o := .cells #[.int .i64 x168000_3, .int .i64 s0_1, .int .i64 x168002_2, .string (⟨#[]⟩ : ByteArray), u168004, u168005] 67 (0, 0)) (by (with_reducible repeat (first | refine yN ?_ _ | refine yD ?_ | refine yA ?_ _)); exact BK167.out) hg (Kd.R_away HO_168004.out (fun _ hk => hk.1.1.2.2)))
             have n3_ := yM (IsS79.grown (by repeat (first | (with_reducible first | exact HI0.out | apply wA | apply wN | apply wD | apply w_0 | apply w_1 | apply w_2 | apply w_3 | refine wR ?_ NB0_166.out _ | refine wR ?_ NB0_167.out _) | exact HI0.out)) hg (IsS79.own_ne HI0.out HO_168004.out (by decide)))
             have n4_ := yM (below_weaken (by repeat (first | (with_reducible first | exact HB.out | apply zA | apply zN | apply zD | refine zq9 ?_ (wG HI0.out) | refine zq9 ?_ GE166.out | refine zq9 ?_ GE167.out) | exact HB.out)) HL.out hb)
             have n5_ := yM (KeepBut.trans (by repeat (first | (with_reducible first | exact HK.out | apply yK | apply zk | apply zl9 | apply zm | refine keep_far ?_ GW166.out _ | refine keep_far ?_ GW167.out _) | exact HK.out)) (KeepBut.of_grown hg g) (Kd.R_base2 HO_168004.out))
             have n6_ := yM (ho)
             clear HO_168005
             clear BK166
             clear BK167
             clear HI0
             clear HB
             clear HK
             clear HO_168004
             clear HO192
             clear HO195
             have HO_168005 := n0_
             have BK166 := n1_
             have BK167 := n2_
             have HI0 := n3_
             have HB := n4_
             have HK := n5_
             have HO202 := n6_
             clear n0_ n1_ n2_ n3_ n4_ n5_ n6_
             clear ho hb hg hat
             obtain ⟨Ao71, co71, eo71⟩ := Kd.R_slice HO202.out
             (first | subst eo71 | (injection eo71 with f1_ f2_ f3_; have f4_ := f1_.symm; have f5_ := f3_.symm; clear f1_ f2_ f3_; subst f4_; subst f5_))
             refine hK.out _ _ ⟨(yC BK167.out 0).trans rfl, (yC BK167.out 1).trans rfl, (yC BK167.out 2).trans rfl, (yC BK167.out 3).trans rfl, (yC BK167.out 4).trans rfl, (yC BK167.out 5).trans rfl⟩ (fun hHeld => ?_)
             clear hK K
             refine norm_ (a' := ?_) ?_ ?_
             rotate_left
             ·show Act.put _ (some 72) _ = _
              simp only [Act.put, yX, yY, yZ, i64_w, i32_w]
              rfl
             refine pure_ (i := 6) (N := some 73) (v := ?_) (a' := ?_) #[true, true, true, true, true, true, true, false] rfl rfl (any_of HT_.out (by kernel_rfl)) (fun _ _ _ h => h) (Or.inl ⟨by rfl, ?_⟩) ?_ ?_
             rotate_left
             ·intro w'
              go_simp
              with_reducible rfl
             rotate_left
             ·simp only [Act.put, yX, yY, yZ, i64_w, i32_w]
              rfl
             refine last_ (i := 7) (N := none) #[true, true, true, true, true, true, true, true] rfl rfl (one_of HT_.out (by kernel_rfl)) (by decide) (fun K hK => ?_)
             have hs72 : w68.cell? ⟨gb167, 4, none⟩ = some (u168004) := (yC BK167.out 4).trans rfl
             have hfs72 := yF BK167.out 4
             have hns72_0 := NB166_167.out
             have hms72_0 := NB167_166.out
             refine skip_ (w1 := ?_) (by rfl) rfl ?_ ?_
             rotate_left
             ·go_simp
              rfl
             refine hK.out _ _ ?_
             clear hK K
             refine done_ (done_of HT_.out (by kernel_rfl)) ?_
             obtain ⟨HGz73, hgz73⟩ := HI0.out
             have hcz73_0 := cellS79_0 HGz73
             have hcz73_1 := cellS79_1 HGz73
             have hcz73_2 := cellS79_2 HGz73
             have hcz73_3 := cellS79_3 HGz73
             have hfz73_0 := yF HGz73 0
             have hfz73_1 := yF HGz73 1
             have hfz73_2 := yF HGz73 2
             have hfz73_3 := yF HGz73 3
             clear HGz73 hgz73
             try go_wp2
             go_roundg kj28
             case measure => have := HJ3.out; have := HK2.out; have := HJ28.out; omega
             case rel => exact ⟨(false), (t196), (t197), (t198), (t199), (x167000_2), (x167001_2), (x167002_2), (x167003_2), (x168002_2), (y200), (x168005_2), (.slice Ao71 y200.length co71), (u168005), (by first | rfl | (simp; done) | (simp [*]; done)), H', ⟨by have := HJ3.out; have := HK2.out; have := HJ28.out; omega⟩, ⟨by (with_reducible repeat (first | apply Kd.R_alloc | apply Kd.R_drewN | apply Kd.R_drew)); exact Kd.R_mono (Kd.R_far (p := ⟨gb167, 4, none⟩) (Kd.R_mono HO202.out (fun k_ hk => (⟨hk, hk.2.2⟩ : _ ∧ k_ ≠ gb167))) (fun _ hk => hk.2) (.slice Ao71 y200.length co71)) (fun _ hk => ⟨hk.1.1, ⟨hk.1.2.1, hk.1.2.2⟩⟩)⟩, ⟨by (with_reducible repeat (first | apply Kd.R_alloc | apply Kd.R_drewN | apply Kd.R_drew)); exact Kd.R_mono (Kd.R_far (p := ⟨gb167, 4, none⟩) (Kd.R_mono HO_168005.out (fun k_ hk => (⟨hk, hk.1.2.2.2⟩ : _ ∧ k_ ≠ gb167))) (fun _ hk => hk.2) (.slice Ao71 y200.length co71)) (fun _ hk => ⟨hk.1.2, ⟨hk.1.1.2.2.1, hk.1.1.2.2.2⟩⟩)⟩, ⟨by (with_reducible repeat (first | refine yN ?_ _ | refine yD ?_ | refine yA ?_ _)); refine yR ?_ NB166_167.out _; (with_reducible repeat (first | refine yN ?_ _ | refine yD ?_ | refine yA ?_ _)); exact BK166.out⟩, ⟨by (with_reducible repeat (first | refine yN ?_ _ | refine yD ?_ | refine yA ?_ _)); refine blk_put (cs := #[.int .i64 x168000_3, .int .i64 s0_1, .int .i64 x168002_2, .string (⟨#[]⟩ : ByteArray), u168004, u168005]) ?_ 4 _ rfl; (with_reducible repeat (first | refine yN ?_ _ | refine yD ?_ | refine yA ?_ _)); exact BK167.out⟩, ⟨by repeat (first | (with_reducible first | exact HI0.out | apply wA | apply wN | apply wD | apply w_0 | apply w_1 | apply w_2 | apply w_3 | refine wR ?_ NB0_166.out _ | refine wR ?_ NB0_167.out _) | exact HI0.out)⟩, ⟨by repeat (first | (with_reducible first | exact HK.out | apply yK | apply zk | apply zl9 | apply zm | refine keep_far ?_ GW166.out _ | refine keep_far ?_ GW167.out _) | exact HK.out)⟩, ⟨by repeat (first | (with_reducible first | exact HB.out | apply zA | apply zN | apply zD | refine zq9 ?_ (wG HI0.out) | refine zq9 ?_ GE166.out | refine zq9 ?_ GE167.out) | exact HB.out)⟩⟩
           ·rw [if_neg c40] at H
            exact absurd H (by simp)
          ·rw [if_neg c38] at H
           have c38b0 : (x10_28 == 34) = false := yB c38
           have c38b1 : (x10_28 != 34) = true := bne_iff_ne.mpr c38
           replace H := yO H
           obtain ⟨⟨t182, t183, t184, t185⟩, A740, H⟩ := H
           replace H : (some (x168000_3, s0_1, x168002_2, (⟨#[]⟩ : ByteArray), x168004_2, x168005_2, t182, t183, t184, t185)) = some (r1, r2, r3, r4, r5, r6, r7, r8, r9, r10) := H
           have A74 := yM A740
           clear A740
           simp only [Option.some.injEq, Prod.mk.injEq] at H
           obtain ⟨rfl, rfl, rfl, rfl, rfl, rfl, rfl, rfl, rfl, rfl⟩ := H
           have hnb75 := NB167_166.out
           have hnc75 := NB166_167.out
           have hnb76 := NB167_0.out
           have hnc76 := NB0_167.out
           have hcz77_0 : wc.cell? ⟨gb167, 0, none⟩ = some (.int .i64 x168000_3) := (yC BK167.out 0).trans rfl
           have hcz77_1 : wc.cell? ⟨gb167, 1, none⟩ = some (.int .i64 s0_1) := (yC BK167.out 1).trans rfl
           have hcz77_2 : wc.cell? ⟨gb167, 2, none⟩ = some (.int .i64 x168002_2) := (yC BK167.out 2).trans rfl
           have hcz77_3 : wc.cell? ⟨gb167, 3, none⟩ = some (.string (⟨#[]⟩ : ByteArray)) := (yC BK167.out 3).trans rfl
           have hcz77_4 : wc.cell? ⟨gb167, 4, none⟩ = some (u168004) := (yC BK167.out 4).trans rfl
           have hcz77_5 : wc.cell? ⟨gb167, 5, none⟩ = some (u168005) := (yC BK167.out 5).trans rfl
           have hfz77_0 := yF BK167.out 0
           have hfz77_1 := yF BK167.out 1
           have hfz77_2 := yF BK167.out 2
           have hfz77_3 := yF BK167.out 3
           have hfz77_4 := yF BK167.out 4
           have hfz77_5 := yF BK167.out 5
           obtain ⟨HGz78, hgz78⟩ := HI0.out
           have hcz78_0 := cellS79_0 HGz78
           have hcz78_1 := cellS79_1 HGz78
           have hcz78_2 := cellS79_2 HGz78
           have hcz78_3 := cellS79_3 HGz78
           have hfz78_0 := yF HGz78 0
           have hfz78_1 := yF HGz78 1
           have hfz78_2 := yF HGz78 2
           have hfz78_3 := yF HGz78 3
           clear HGz78 hgz78
           go_wp2_with (first | ((with_reducible refine gate_callee (f := 34) rfl ?_); refine goesL_ (some 65) rfl rfl Tryd.func34 (by kernel_rfl) rfl #[.pointer (some ⟨g, 0, none⟩), .int .i64 120, .int .i64 x1001_28] rfl (by (try simp only [List.map_toArray, List.map_cons, List.map_nil]); first | done | rfl | (simp only [List.length_drop, List.length_take]; rfl)) ?_; (with_reducible refine (T_fail.calls g x1000_28 x1001_28 x1002_28 x1003_28 120 x1001_28 t182 t183 t184 t185 w0 _ ?side1 ?side2 A74.out).mono ?_); (case side1 => repeat (first | (with_reducible first | exact HI0.out | apply wA | apply wN | apply wD | apply w_0 | apply w_1 | apply w_2 | apply w_3 | refine wR ?_ NB0_166.out _ | refine wR ?_ NB0_167.out _) | exact HI0.out)); (case side2 => repeat (first | (with_reducible first | exact HB.out | apply zA | apply zN | apply zD | refine zq9 ?_ (wG HI0.out) | refine zq9 ?_ GE166.out | refine zq9 ?_ GE167.out) | exact HB.out)); rintro e w79 ⟨rfl, hi, hb, hk⟩; refine ⟨_, rfl, ?_⟩; have n0_ := yM (Kd.R_mono (Kd.R_keep (IsS79.apart (show IsS79 w0 _ g x1000_28 x1001_28 x1002_28 x1003_28 from by repeat (first | (with_reducible first | exact HI0.out | apply wA | apply wN | apply wD | apply w_0 | apply w_1 | apply w_2 | apply w_3 | refine wR ?_ NB0_166.out _ | refine wR ?_ NB0_167.out _) | exact HI0.out)) (by (with_reducible repeat (first | apply Kd.R_alloc | apply Kd.R_drewN | apply Kd.R_drew)); exact HO_168004.out) (by decide)) hk (fun _ h => h.2)) (fun _ h => h.1)); have n1_ := yM (Kd.R_mono (Kd.R_keep (IsS79.apart (show IsS79 w0 _ g x1000_28 x1001_28 x1002_28 x1003_28 from by repeat (first | (with_reducible first | exact HI0.out | apply wA | apply wN | apply wD | apply w_0 | apply w_1 | apply w_2 | apply w_3 | refine wR ?_ NB0_166.out _ | refine wR ?_ NB0_167.out _) | exact HI0.out)) (by (with_reducible repeat (first | apply Kd.R_alloc | apply Kd.R_drewN | apply Kd.R_drew)); exact HO_168005.out) (by decide)) hk (fun _ h => h.2)) (fun _ h => h.1)); have n2_ := yM (KeepBut.blk hk (g' := gb166) (o := .cells #[.int .i64 x167000_2, .int .i64 x167001_2, .int .i64 x167002_2, .string x167003_2, .slice none 0 0, .slice none 0 0] 67 (0, 0)) (by (with_reducible repeat (first | refine yN ?_ _ | refine yD ?_ | refine yA ?_ _)); exact BK166.out) NB166_0.out (by simp)); have n3_ := yM (KeepBut.blk hk (g' := gb167) (o := .cells #[.int .i64 x168000_3, .int .i64 s0_1, .int .i64 x168002_2, .string (⟨#[]⟩ : ByteArray), u168004, u168005] 67 (0, 0)) (by (with_reducible repeat (first | refine yN ?_ _ | refine yD ?_ | refine yA ?_ _)); exact BK167.out) NB167_0.out (by simp)); have n4_ := yM (KeepBut.trans (by repeat (first | (with_reducible first | exact HK.out | apply yK | apply zk | apply zl9 | apply zm | refine keep_far ?_ GW166.out _ | refine keep_far ?_ GW167.out _) | exact HK.out)) hk (.inl rfl)); have n5_ := yM (hb); have n6_ := yM (hi); clear HO_168004; clear HO_168005; clear BK166; clear BK167; clear HK; clear HB; clear HI0; have HO_168004 := n0_; have HO_168005 := n1_; have BK166 := n2_; have BK167 := n3_; have HK := n4_; have HB := n5_; have HI0 := n6_; clear n0_ n1_ n2_ n3_ n4_ n5_ n6_; (try clear hb); (try clear hb2); (try clear hk); (try clear hi); have hcz80_0 : w79.cell? ⟨gb167, 0, none⟩ = some (.int .i64 x168000_3) := (yC BK167.out 0).trans rfl; have hcz80_1 : w79.cell? ⟨gb167, 1, none⟩ = some (.int .i64 s0_1) := (yC BK167.out 1).trans rfl; have hcz80_2 : w79.cell? ⟨gb167, 2, none⟩ = some (.int .i64 x168002_2) := (yC BK167.out 2).trans rfl; have hcz80_3 : w79.cell? ⟨gb167, 3, none⟩ = some (.string (⟨#[]⟩ : ByteArray)) := (yC BK167.out 3).trans rfl; have hcz80_4 : w79.cell? ⟨gb167, 4, none⟩ = some (u168004) := (yC BK167.out 4).trans rfl; have hcz80_5 : w79.cell? ⟨gb167, 5, none⟩ = some (u168005) := (yC BK167.out 5).trans rfl; have hfz80_0 := yF BK167.out 0; have hfz80_1 := yF BK167.out 1; have hfz80_2 := yF BK167.out 2; have hfz80_3 := yF BK167.out 3; have hfz80_4 := yF BK167.out 4; have hfz80_5 := yF BK167.out 5; have hnb81 := NB166_0.out; have hnc81 := NB0_166.out; have hcz82_0 : w79.cell? ⟨gb166, 0, none⟩ = some (.int .i64 x167000_2) := (yC BK166.out 0).trans rfl; have hcz82_1 : w79.cell? ⟨gb166, 1, none⟩ = some (.int .i64 x167001_2) := (yC BK166.out 1).trans rfl; have hcz82_2 : w79.cell? ⟨gb166, 2, none⟩ = some (.int .i64 x167002_2) := (yC BK166.out 2).trans rfl; have hcz82_3 : w79.cell? ⟨gb166, 3, none⟩ = some (.string x167003_2) := (yC BK166.out 3).trans rfl; have hcz82_4 : w79.cell? ⟨gb166, 4, none⟩ = some (.slice none 0 0) := (yC BK166.out 4).trans rfl; have hcz82_5 : w79.cell? ⟨gb166, 5, none⟩ = some (.slice none 0 0) := (yC BK166.out 5).trans rfl; have hfz82_0 := yF BK166.out 0; have hfz82_1 := yF BK166.out 1; have hfz82_2 := yF BK166.out 2; have hfz82_3 := yF BK166.out 3; have hfz82_4 := yF BK166.out 4; have hfz82_5 := yF BK166.out 5; obtain ⟨Ao83, co83, eo83⟩ := Kd.R_slice HO_168004.out; subst eo83; obtain ⟨Ao84, co84, eo84⟩ := Kd.R_slice HO_168005.out; subst eo84))
           refine bodyPost_ret (results_cell_row rfl _ _ gb166 67 #[.int .i64 x168000_3, .int .i64 s0_1, .int .i64 x168002_2, .string (⟨#[]⟩ : ByteArray), .slice Ao83 x168004_2.length co83, .slice Ao84 x168005_2.length co84] (0, 0) _ rfl (by (with_reducible repeat (first | refine yN ?_ _ | refine yD ?_ | refine yA ?_ _)); refine blk_put (cs := #[.int .i64 x168000_3, .int .i64 s0_1, .int .i64 x168002_2, .string (⟨#[]⟩ : ByteArray), .slice Ao83 x168004_2.length co83, .slice none 0 0]) ?_ 5 _ rfl; (with_reducible repeat (first | refine yN ?_ _ | refine yD ?_ | refine yA ?_ _)); refine blk_put (cs := #[.int .i64 x168000_3, .int .i64 s0_1, .int .i64 x168002_2, .string (⟨#[]⟩ : ByteArray), .slice none 0 0, .slice none 0 0]) ?_ 4 _ rfl; (with_reducible repeat (first | refine yN ?_ _ | refine yD ?_ | refine yA ?_ _)); refine blk_put (cs := #[.int .i64 x168000_3, .int .i64 s0_1, .int .i64 x168002_2, .string x167003_2, .slice none 0 0, .slice none 0 0]) ?_ 3 _ rfl; (with_reducible repeat (first | refine yN ?_ _ | refine yD ?_ | refine yA ?_ _)); refine blk_put (cs := #[.int .i64 x168000_3, .int .i64 s0_1, .int .i64 x167002_2, .string x167003_2, .slice none 0 0, .slice none 0 0]) ?_ 2 _ rfl; (with_reducible repeat (first | refine yN ?_ _ | refine yD ?_ | refine yA ?_ _)); refine blk_put (cs := #[.int .i64 x168000_3, .int .i64 x167001_2, .int .i64 x167002_2, .string x167003_2, .slice none 0 0, .slice none 0 0]) ?_ 1 _ rfl; (with_reducible repeat (first | refine yN ?_ _ | refine yD ?_ | refine yA ?_ _)); refine blk_put (cs := #[.int .i64 x167000_2, .int .i64 x167001_2, .int .i64 x167002_2, .string x167003_2, .slice none 0 0, .slice none 0 0]) ?_ 0 _ rfl; (with_reducible repeat (first | refine yN ?_ _ | refine yD ?_ | refine yA ?_ _)); exact BK166.out) Tryd.underlying67 rfl (by kernel_rfl)) rfl ?_
           exact ⟨_, _, by first | rfl | (simp [errW_none, errW_some] <;> rfl) | (simp [*, errW_none, errW_some] <;> rfl), by (with_reducible repeat (first | apply Kd.R_alloc | apply Kd.R_drewN | apply Kd.R_drew)); exact Kd.R_mono (Kd.R_far (p := ⟨gb166, 5, none⟩) (Kd.R_far (p := ⟨gb166, 4, none⟩) (Kd.R_far (p := ⟨gb166, 3, none⟩) (Kd.R_far (p := ⟨gb166, 2, none⟩) (Kd.R_far (p := ⟨gb166, 1, none⟩) (Kd.R_far (p := ⟨gb166, 0, none⟩) (Kd.R_mono HO_168004.out (fun k_ hk => (⟨hk, hk.2.1⟩ : _ ∧ k_ ≠ gb166))) (fun _ hk => hk.2) (.int .i64 x168000_3)) (fun _ hk => hk.2) (.int .i64 s0_1)) (fun _ hk => hk.2) (.int .i64 x168002_2)) (fun _ hk => hk.2) (.string (⟨#[]⟩ : ByteArray))) (fun _ hk => hk.2) (.slice Ao83 x168004_2.length co83)) (fun _ hk => hk.2) (.slice Ao84 x168005_2.length co84)) (fun _ hk => hk.1.1), by (with_reducible repeat (first | apply Kd.R_alloc | apply Kd.R_drewN | apply Kd.R_drew)); exact Kd.R_mono (Kd.R_far (p := ⟨gb166, 5, none⟩) (Kd.R_far (p := ⟨gb166, 4, none⟩) (Kd.R_far (p := ⟨gb166, 3, none⟩) (Kd.R_far (p := ⟨gb166, 2, none⟩) (Kd.R_far (p := ⟨gb166, 1, none⟩) (Kd.R_far (p := ⟨gb166, 0, none⟩) (Kd.R_mono HO_168005.out (fun k_ hk => (⟨hk, hk.2.1⟩ : _ ∧ k_ ≠ gb166))) (fun _ hk => hk.2) (.int .i64 x168000_3)) (fun _ hk => hk.2) (.int .i64 s0_1)) (fun _ hk => hk.2) (.int .i64 x168002_2)) (fun _ hk => hk.2) (.string (⟨#[]⟩ : ByteArray))) (fun _ hk => hk.2) (.slice Ao83 x168004_2.length co83)) (fun _ hk => hk.2) (.slice Ao84 x168005_2.length co84)) (fun _ hk => hk.1.1), by repeat (first | (with_reducible first | exact HI0.out | apply wA | apply wN | apply wD | apply w_0 | apply w_1 | apply w_2 | apply w_3 | refine wR ?_ NB0_166.out _ | refine wR ?_ NB0_167.out _) | exact HI0.out), by repeat (first | (with_reducible first | exact HB.out | apply zA | apply zN | apply zD | refine zq9 ?_ (wG HI0.out) | refine zq9 ?_ GE166.out | refine zq9 ?_ GE167.out) | exact HB.out), by repeat (first | (with_reducible first | exact HK.out | apply yK | apply zk | apply zl9 | apply zm | refine keep_far ?_ GW166.out _ | refine keep_far ?_ GW167.out _) | exact HK.out)⟩
         ·rw [if_neg c37] at H
          have c37b0 : (x168000_3 == 1) = false := yB c37
          have c37b1 : (x168000_3 != 1) = true := bne_iff_ne.mpr c37
          by_cases c85 : x1002_28 = 0
          ·rw [if_pos c85] at H
           have c85b0 : (x1002_28 == 0) = true := beq_iff_eq.mpr c85
           have c85b1 : (x1002_28 != 0) = false := bne_eq_false_iff_eq.mpr c85
           clear c85
           replace H := yO H
           obtain ⟨⟨t220, t221, t222, t223, t224, t227, t230, t231, t232, t233⟩, A860, H⟩ := H
           replace H : (if x168005_2.length < 1599289640401 then (T_inside.l0 kj28 a2 x8_3 false t230 t231 t232 t233 x168000_3 s0_1 x168002_2 (⟨#[]⟩ : ByteArray) x168004_2 (x168005_2 ++ [(⟨t220, t221, t222, t223, t224, t227⟩ : S67)])) else (none)) = some (r1, r2, r3, r4, r5, r6, r7, r8, r9, r10) := H
           have A86 := yM A860
           clear A860
           by_cases c87 : x168005_2.length < 1599289640401
           ·rw [if_pos c87] at H
            have LMc87 := yM c87
            clear c87
            obtain ⟨y234, hy234⟩ : ∃ y_ : List (S67), y_ = (x168005_2 ++ [(⟨t220, t221, t222, t223, t224, t227⟩ : S67)]) := ⟨_, rfl⟩
            replace H : (T_inside.l0 kj28 a2 x8_3 false t230 t231 t232 t233 x168000_3 s0_1 x168002_2 (⟨#[]⟩ : ByteArray) x168004_2 y234) = some (r1, r2, r3, r4, r5, r6, r7, r8, r9, r10) := by first | (rw [hy234]; with_reducible exact H) | (have H2_ := (Option.bind_some _ _).symm.trans H; rw [hy234]; with_reducible exact H2_) | (have H2_ := (Option.bind_some _ _).symm.trans H; with_reducible exact H2_) | with_reducible exact H | (rw [hy234]; exact H) | exact H
            have Ny234 := yM hy234
            clear hy234
            have H' := yM H
            clear H
            have hnb88 := NB167_166.out
            have hnc88 := NB166_167.out
            have hnb89 := NB167_0.out
            have hnc89 := NB0_167.out
            have hcz90_0 : wc.cell? ⟨gb167, 0, none⟩ = some (.int .i64 x168000_3) := (yC BK167.out 0).trans rfl
            have hcz90_1 : wc.cell? ⟨gb167, 1, none⟩ = some (.int .i64 s0_1) := (yC BK167.out 1).trans rfl
            have hcz90_2 : wc.cell? ⟨gb167, 2, none⟩ = some (.int .i64 x168002_2) := (yC BK167.out 2).trans rfl
            have hcz90_3 : wc.cell? ⟨gb167, 3, none⟩ = some (.string (⟨#[]⟩ : ByteArray)) := (yC BK167.out 3).trans rfl
            have hcz90_4 : wc.cell? ⟨gb167, 4, none⟩ = some (u168004) := (yC BK167.out 4).trans rfl
            have hcz90_5 : wc.cell? ⟨gb167, 5, none⟩ = some (u168005) := (yC BK167.out 5).trans rfl
            have hfz90_0 := yF BK167.out 0
            have hfz90_1 := yF BK167.out 1
            have hfz90_2 := yF BK167.out 2
            have hfz90_3 := yF BK167.out 3
            have hfz90_4 := yF BK167.out 4
            have hfz90_5 := yF BK167.out 5
            obtain ⟨HGz91, hgz91⟩ := HI0.out
            have hcz91_0 := cellS79_0 HGz91
            have hcz91_1 := cellS79_1 HGz91
            have hcz91_2 := cellS79_2 HGz91
            have hcz91_3 := cellS79_3 HGz91
            have hfz91_0 := yF HGz91 0
            have hfz91_1 := yF HGz91 1
            have hfz91_2 := yF HGz91 2
            have hfz91_3 := yF HGz91 3
            clear HGz91 hgz91
            try go_wp2
            have n0_ := yM (Kd.R_drew HO_168004.out)
            have n1_ := yM (Kd.R_drew HO_168005.out)
            have n2_ := yM (yD BK166.out)
            have n3_ := yM (yD BK167.out)
            have n4_ := yM (wD HI0.out)
            have n5_ := yM (zl9 HK.out)
            have n6_ := yM (zD HB.out)
            clear HO_168004
            clear HO_168005
            clear BK166
            clear BK167
            clear HI0
            clear HK
            clear HB
            have HO_168004 := n0_
            have HO_168005 := n1_
            have BK166 := n2_
            have BK167 := n3_
            have HI0 := n4_
            have HK := n5_
            have HB := n6_
            clear n0_ n1_ n2_ n3_ n4_ n5_ n6_
            refine start_ (n := 9) (S := fun w' => w'.cell? ⟨gb167, 0, none⟩ = some (.int .i64 x168000_3) ∧ w'.cell? ⟨gb167, 1, none⟩ = some (.int .i64 s0_1) ∧ w'.cell? ⟨gb167, 2, none⟩ = some (.int .i64 x168002_2) ∧ w'.cell? ⟨gb167, 3, none⟩ = some (.string (⟨#[]⟩ : ByteArray)) ∧ w'.cell? ⟨gb167, 4, none⟩ = some (u168004) ∧ w'.cell? ⟨gb167, 5, none⟩ = some (u168005)) (ds := [8]) #[false, false, false, false, false, false, false, false, false] (by kernel_rfl) rfl rfl ⟨(yC BK167.out 0).trans rfl, (yC BK167.out 1).trans rfl, (yC BK167.out 2).trans rfl, (yC BK167.out 3).trans rfl, (yC BK167.out 4).trans rfl, (yC BK167.out 5).trans rfl⟩ (fun hHeld => ?_); refine with_tabW T_inside.tab24 T_inside.bits24 (fun HT_ HW_ => ?_)
            generalize wc.drew = w92 at HO_168004 HO_168005 BK166 BK167 HI0 HK HB hHeld ⊢
            refine pure_ (i := 0) (N := some 79) (v := ?_) (a' := ?_) #[true, false, false, false, false, false, false, false, false] rfl rfl (any_of HT_.out (by kernel_rfl)) (fun _ _ _ h => h) (Or.inl ⟨by rfl, ?_⟩) ?_ ?_
            rotate_left
            ·intro w'
             go_simp
             with_reducible rfl
            rotate_left
            ·simp only [Act.put, yX, yY, yZ, i64_w, i32_w]
             rfl
            refine pure_ (i := 2) (N := some 81) (v := ?_) (a' := ?_) #[true, false, true, false, false, false, false, false, false] rfl rfl (any_of HT_.out (by kernel_rfl)) (fun _ _ _ h => h) (Or.inl ⟨by rfl, ?_⟩) ?_ ?_
            rotate_left
            ·intro w'
             go_simp
             with_reducible rfl
            rotate_left
            ·simp only [Act.put, yX, yY, yZ, i64_w, i32_w]
             rfl
            refine pure_ (i := 3) (N := some 82) (v := ?_) (a' := ?_) #[true, false, true, true, false, false, false, false, false] rfl rfl (any_of HT_.out (by kernel_rfl)) (fun _ _ _ h => h) (Or.inl ⟨by rfl, ?_⟩) ?_ ?_
            rotate_left
            ·intro w'
             go_simp
             with_reducible rfl
            rotate_left
            ·simp only [Act.put, yX, yY, yZ, i64_w, i32_w]
             rfl
            refine take_ (i := 1) (N := some 80) (v := ?_) (a' := ?_) #[true, true, true, true, false, false, false, false, false] rfl rfl (take_ofW HT_.out HW_.out (by kernel_rfl)) (fun _ _ _ h => h) (Or.inl ⟨by rfl, ?_⟩) hHeld ?_ ?_
            rotate_left
            ·rintro w' ⟨s0, s1, s2, s3, s4, s5⟩
             go_simp
             with_reducible rfl
            rotate_left
            ·simp only [Act.put, yX, yY, yZ, i64_w, i32_w]
             rfl
            refine one_ (i := 4) (N := some 83) #[true, true, true, true, true, false, false, false, false] rfl rfl (one_of HT_.out (by kernel_rfl)) (by decide) (fun K hK => ?_)
            refine goes_ Tryd.func32 (by kernel_rfl) rfl #[.pointer (some ⟨g, 0, none⟩), .int .i64 a2] (by rfl) rfl rfl (by (try simp only [List.map_toArray, List.map_cons, List.map_nil]); first | done | rfl | (simp only [List.length_drop, List.length_take]; rfl)) ?_
            with_reducible refine (HV.out kj28 g x1000_28 x1001_28 x1002_28 x1003_28 t220 t221 t222 t223 t224 t227 t230 t231 t232 t233 w0 _ ?side1 ?side2 A86.out).mono ?_
            (case side1 => repeat (first | (with_reducible first | exact HI0.out | apply wA | apply wN | apply wD | apply w_0 | apply w_1 | apply w_2 | apply w_3 | refine wR ?_ NB0_166.out _ | refine wR ?_ NB0_167.out _) | exact HI0.out))
            (case side2 => repeat (first | (with_reducible first | exact HB.out | apply zA | apply zN | apply zD | refine zq9 ?_ (wG HI0.out) | refine zq9 ?_ GE166.out | refine zq9 ?_ GE167.out) | exact HB.out))
            rintro e w93 ⟨v225, v228, rfl, ho0, ho1, hi, hb, hk⟩
            refine ⟨_, rfl, ?_⟩
            have n0_ := yM (Kd.R_mono (Kd.R_told (Kd.R_told (Kd.R_oldK (IsS79.apart (show IsS79 w0 _ g x1000_28 x1001_28 x1002_28 x1003_28 from by repeat (first | (with_reducible first | exact HI0.out | apply wA | apply wN | apply wD | apply w_0 | apply w_1 | apply w_2 | apply w_3 | refine wR ?_ NB0_166.out _ | refine wR ?_ NB0_167.out _) | exact HI0.out)) (by (with_reducible repeat (first | apply Kd.R_alloc | apply Kd.R_drewN | apply Kd.R_drew)); exact HO_168004.out) (by decide)) hk) (Kd.R_base ho0)) (Kd.R_base ho1)) (fun _ h_ => h_.1))
            have n1_ := yM (Kd.R_mono (Kd.R_told (Kd.R_told (Kd.R_oldK (IsS79.apart (show IsS79 w0 _ g x1000_28 x1001_28 x1002_28 x1003_28 from by repeat (first | (with_reducible first | exact HI0.out | apply wA | apply wN | apply wD | apply w_0 | apply w_1 | apply w_2 | apply w_3 | refine wR ?_ NB0_166.out _ | refine wR ?_ NB0_167.out _) | exact HI0.out)) (by (with_reducible repeat (first | apply Kd.R_alloc | apply Kd.R_drewN | apply Kd.R_drew)); exact HO_168005.out) (by decide)) hk) (Kd.R_base ho0)) (Kd.R_base ho1)) (fun _ h_ => h_.1))
            have n2_ := yM (KeepBut.blk hk (g' := gb166) (o := .cells #[.int .i64 x167000_2, .int .i64 x167001_2, .int .i64 x167002_2, .string x167003_2, .slice none 0 0, .slice none 0 0] 67 (0, 0)) (by (with_reducible repeat (first | refine yN ?_ _ | refine yD ?_ | refine yA ?_ _)); exact BK166.out) NB166_0.out (by simp))
            have n3_ := yM (KeepBut.blk hk (g' := gb167) (o := .cells #[.int .i64 x168000_3, .int .i64 s0_1, .int .i64 x168002_2, .string (⟨#[]⟩ : ByteArray), u168004, u168005] 67 (0, 0)) (by (with_reducible repeat (first | refine yN ?_ _ | refine yD ?_ | refine yA ?_ _)); exact BK167.out) NB167_0.out (by simp))
            have n4_ := yM (Kd.R_lower (Kd.R_newB (Kd.R_newB (Kd.R_new' (Kd.R_new' ho0 (Kd.R_lt (by (with_reducible repeat (first | apply Kd.R_alloc | apply Kd.R_drewN | apply Kd.R_drew)); exact HO_168004.out))) (Kd.R_lt (by (with_reducible repeat (first | apply Kd.R_alloc | apply Kd.R_drewN | apply Kd.R_drew)); exact HO_168005.out))) (g := gb166) (o := .cells #[.int .i64 x167000_2, .int .i64 x167001_2, .int .i64 x167002_2, .string x167003_2, .slice none 0 0, .slice none 0 0] 67 (0, 0)) (by (with_reducible repeat (first | refine yN ?_ _ | refine yD ?_ | refine yA ?_ _)); exact BK166.out)) (g := gb167) (o := .cells #[.int .i64 x168000_3, .int .i64 s0_1, .int .i64 x168002_2, .string (⟨#[]⟩ : ByteArray), u168004, u168005] 67 (0, 0)) (by (with_reducible repeat (first | refine yN ?_ _ | refine yD ?_ | refine yA ?_ _)); exact BK167.out)) (keep_size (w := w) (g := g) (row := none) (by repeat (first | (with_reducible first | exact HK.out | apply yK | apply zk | apply zl9 | apply zm | refine keep_far ?_ GW166.out _ | refine keep_far ?_ GW167.out _) | exact HK.out))))
            have n5_ := yM (Kd.R_lower (Kd.R_newB (Kd.R_newB (Kd.R_new' (Kd.R_new' ho1 (Kd.R_lt (by (with_reducible repeat (first | apply Kd.R_alloc | apply Kd.R_drewN | apply Kd.R_drew)); exact HO_168004.out))) (Kd.R_lt (by (with_reducible repeat (first | apply Kd.R_alloc | apply Kd.R_drewN | apply Kd.R_drew)); exact HO_168005.out))) (g := gb166) (o := .cells #[.int .i64 x167000_2, .int .i64 x167001_2, .int .i64 x167002_2, .string x167003_2, .slice none 0 0, .slice none 0 0] 67 (0, 0)) (by (with_reducible repeat (first | refine yN ?_ _ | refine yD ?_ | refine yA ?_ _)); exact BK166.out)) (g := gb167) (o := .cells #[.int .i64 x168000_3, .int .i64 s0_1, .int .i64 x168002_2, .string (⟨#[]⟩ : ByteArray), u168004, u168005] 67 (0, 0)) (by (with_reducible repeat (first | refine yN ?_ _ | refine yD ?_ | refine yA ?_ _)); exact BK167.out)) (keep_size (w := w) (g := g) (row := none) (by repeat (first | (with_reducible first | exact HK.out | apply yK | apply zk | apply zl9 | apply zm | refine keep_far ?_ GW166.out _ | refine keep_far ?_ GW167.out _) | exact HK.out))))
            have n6_ := yM (KeepBut.trans (by repeat (first | (with_reducible first | exact HK.out | apply yK | apply zk | apply zl9 | apply zm | refine keep_far ?_ GW166.out _ | refine keep_far ?_ GW167.out _) | exact HK.out)) hk (.inl rfl))
            have n7_ := yM (hb)
            have n8_ := yM (hi)
            clear HO_168004
            clear HO_168005
            clear BK166
            clear BK167
            clear HK
            clear HB
            clear HI0
            have HO_168004 := n0_
            have HO_168005 := n1_
            have BK166 := n2_
            have BK167 := n3_
            have HO226 := n4_
            have HO229 := n5_
            have HK := n6_
            have HB := n7_
            have HI0 := n8_
            clear n0_ n1_ n2_ n3_ n4_ n5_ n6_ n7_ n8_
            (try clear hb)
            (try clear hb2)
            (try clear hk)
            (try clear hi)
            (try clear ho0)
            (try clear ho1)
            obtain ⟨Ao95, co95, eo95⟩ := Kd.R_slice HO226.out
            (first | subst eo95 | (injection eo95 with f1_ f2_ f3_; have f4_ := f1_.symm; have f5_ := f3_.symm; clear f1_ f2_ f3_; subst f4_; subst f5_))
            obtain ⟨Ao96, co96, eo96⟩ := Kd.R_slice HO229.out
            (first | subst eo96 | (injection eo96 with f1_ f2_ f3_; have f4_ := f1_.symm; have f5_ := f3_.symm; clear f1_ f2_ f3_; subst f4_; subst f5_))
            refine hK.out _ _ ⟨(yC BK167.out 0).trans rfl, (yC BK167.out 1).trans rfl, (yC BK167.out 2).trans rfl, (yC BK167.out 3).trans rfl, (yC BK167.out 4).trans rfl, (yC BK167.out 5).trans rfl⟩ (fun hHeld => ?_)
            clear hK K
            refine norm_ (a' := ?_) ?_ ?_
            rotate_left
            ·show Act.put _ (some 83) _ = _
             simp only [Act.put, yX, yY, yZ, i64_w, i32_w]
             rfl
            refine one_ (i := 5) (N := some 84) #[true, true, true, true, true, true, false, false, false] rfl rfl (one_of HT_.out (by kernel_rfl)) (by decide) (fun K hK => ?_)
            refine value_ (w1 := ?_) (v := ?_) (by rfl) rfl ?_ ?_
            rotate_left 2
            ·go_simp
             constructor
             ·rfl
             ·rfl
            refine hK.out _ _ ⟨(yC (yA BK167.out _) 0).trans rfl, (yC (yA BK167.out _) 1).trans rfl, (yC (yA BK167.out _) 2).trans rfl, (yC (yA BK167.out _) 3).trans rfl, (yC (yA BK167.out _) 4).trans rfl, (yC (yA BK167.out _) 5).trans rfl⟩ (fun hHeld => ?_)
            clear hK K
            refine norm_ (a' := ?_) ?_ ?_
            rotate_left
            ·show Act.put _ (some 84) _ = _
             simp only [Act.put, yX, yY, yZ, i64_w, i32_w]
             rfl
            refine one_ (i := 6) (N := some 85) #[true, true, true, true, true, true, true, false, false] rfl rfl (one_of HT_.out (by kernel_rfl)) (by decide) (fun K hK => ?_)
            refine Kd.R_append_step k67 w.heap.size (by rfl) (.tmp 80) (.tmp 84) 65 67 (.agg #[(.int .i64 0), (.int .i64 0), (.int .i64 0), (.string ⟨#[]⟩), (.slice none 0 0), (.slice none 0 0)]) 88 rfl Tryd.underlying65 info67 rfl (by decide) (by omega) u168005 x168005_2 (⟨t220, t221, t222, t223, t224, t227⟩ : S67) [.int .i64 t220, .int .i64 t221, .int .i64 t222, .string t223, .slice Ao95 t224.length co95, .slice Ao96 t227.length co96] (fun k_ => some k_ ≠ (u168004 : Value).ownBlock ∧ k_ ≠ gb166 ∧ k_ ≠ gb167) (fun k_ => ((fun k_ => some k_ ≠ (u168004 : Value).ownBlock ∧ k_ ≠ gb166 ∧ k_ ≠ gb167)) k_ ∧ some k_ ≠ (u168005 : Value).ownBlock) rfl rfl ?aP (fun _ hk => hk) ?aF ?aO (Below.refl _ _) ?aS ?aL ?_
            (case aP => exact k67_mkM _ _ _ (⟨t220, t221, t222, t223, t224, t227⟩ : S67) (Kd.R_mono (HO226.out) (fun k_ hk => ⟨⟨hk.1.1.1.2, ⟨hk.1.2, hk.2⟩⟩, hk.1.1.2⟩)) (Kd.R_mono (HO229.out) (fun k_ hk => ⟨⟨hk.1.1.1.2, ⟨hk.1.2, hk.2⟩⟩, hk.1.1.2⟩)))
            (case aF => exact (fun k_ hk => ⟨Kd.fresh' (Kd.R_lt (by (with_reducible repeat (first | apply Kd.R_alloc | apply Kd.R_drewN | apply Kd.R_drew)); exact HO_168004.out)) k_ hk, Kd.freshB (g := gb166) (o := .cells #[.int .i64 x167000_2, .int .i64 x167001_2, .int .i64 x167002_2, .string x167003_2, .slice none 0 0, .slice none 0 0] 67 (0, 0)) (by (with_reducible repeat (first | refine yN ?_ _ | refine yD ?_ | refine yA ?_ _)); exact BK166.out) k_ hk, Kd.freshB (g := gb167) (o := .cells #[.int .i64 x168000_3, .int .i64 s0_1, .int .i64 x168002_2, .string (⟨#[]⟩ : ByteArray), u168004, u168005] 67 (0, 0)) (by (with_reducible repeat (first | refine yN ?_ _ | refine yD ?_ | refine yA ?_ _)); exact BK167.out) k_ hk⟩))
            (case aO => exact (by (with_reducible repeat (first | apply Kd.R_alloc | apply Kd.R_drewN | apply Kd.R_drew)); exact Kd.R_mono HO_168005.out (fun _ hk => ⟨hk.1.1.1, ⟨hk.1.1.2.1, hk.1.1.2.2⟩⟩)))
            (case aS => exact (keep_size (w := w) (g := g) (row := none) (by repeat (first | (with_reducible first | exact HK.out | apply yK | apply zk | apply zl9 | apply zm | refine keep_far ?_ GW166.out _ | refine keep_far ?_ GW167.out _) | exact HK.out))))
            (case aL => have := LMc87.out; omega)
            intro v235 w94 ho hb hg hat
            rw [← Ny234.out] at ho
            have n0_ := yM (Kd.R_after (ok := (fun k_ => some k_ ≠ (.slice Ao95 t224.length co95 : Value).ownBlock ∧ some k_ ≠ (.slice Ao96 t227.length co96 : Value).ownBlock ∧ k_ ≠ gb166 ∧ k_ ≠ gb167)) (by (with_reducible repeat (first | apply Kd.R_alloc | apply Kd.R_drewN | apply Kd.R_drew)); exact Kd.R_mono HO_168004.out (fun _ hk => ⟨⟨hk.1.2, ⟨hk.2, ⟨hk.1.1.2.1, hk.1.1.2.2⟩⟩⟩, hk.1.1.1⟩)) hg hat)
            have n1_ := yM (blk_grown (g := gb166) (o := .cells #[.int .i64 x167000_2, .int .i64 x167001_2, .int .i64 x167002_2, .string x167003_2, .slice none 0 0, .slice none 0 0] 67 (0, 0)) (by (with_reducible repeat (first | refine yN ?_ _ | refine yD ?_ | refine yA ?_ _)); exact BK166.out) hg (Kd.R_away HO_168005.out (fun _ hk => hk.1.1.2.1)))
            have n2_ := yM (blk_grown (g := gb167) (o := .cells #[.int .i64 x168000_3, .int .i64 s0_1, .int .i64 x168002_2, .string (⟨#[]⟩ : ByteArray), u168004, u168005] 67 (0, 0)) (by (with_reducible repeat (first | refine yN ?_ _ | refine yD ?_ | refine yA ?_ _)); exact BK167.out) hg (Kd.R_away HO_168005.out (fun _ hk => hk.1.1.2.2)))
            have n3_ := yM (IsS79.grown (by repeat (first | (with_reducible first | exact HI0.out | apply wA | apply wN | apply wD | apply w_0 | apply w_1 | apply w_2 | apply w_3 | refine wR ?_ NB0_166.out _ | refine wR ?_ NB0_167.out _) | exact HI0.out)) hg (IsS79.own_ne HI0.out HO_168005.out (by decide)))
            have n4_ := yM (below_weaken (by repeat (first | (with_reducible first | exact HB.out | apply zA | apply zN | apply zD | refine zq9 ?_ (wG HI0.out) | refine zq9 ?_ GE166.out | refine zq9 ?_ GE167.out) | exact HB.out)) HL.out hb)
            have n5_ := yM (KeepBut.trans (by repeat (first | (with_reducible first | exact HK.out | apply yK | apply zk | apply zl9 | apply zm | refine keep_far ?_ GW166.out _ | refine keep_far ?_ GW167.out _) | exact HK.out)) (KeepBut.of_grown hg g) (Kd.R_base2 HO_168005.out))
            have n6_ := yM (ho)
            clear HO_168004
            clear BK166
            clear BK167
            clear HI0
            clear HB
            clear HK
            clear HO_168005
            clear HO226
            clear HO229
            have HO_168004 := n0_
            have BK166 := n1_
            have BK167 := n2_
            have HI0 := n3_
            have HB := n4_
            have HK := n5_
            have HO236 := n6_
            clear n0_ n1_ n2_ n3_ n4_ n5_ n6_
            clear ho hb hg hat
            obtain ⟨Ao97, co97, eo97⟩ := Kd.R_slice HO236.out
            (first | subst eo97 | (injection eo97 with f1_ f2_ f3_; have f4_ := f1_.symm; have f5_ := f3_.symm; clear f1_ f2_ f3_; subst f4_; subst f5_))
            refine hK.out _ _ ⟨(yC BK167.out 0).trans rfl, (yC BK167.out 1).trans rfl, (yC BK167.out 2).trans rfl, (yC BK167.out 3).trans rfl, (yC BK167.out 4).trans rfl, (yC BK167.out 5).trans rfl⟩ (fun hHeld => ?_)
            clear hK K
            refine norm_ (a' := ?_) ?_ ?_
            rotate_left
            ·show Act.put _ (some 85) _ = _
             simp only [Act.put, yX, yY, yZ, i64_w, i32_w]
             rfl
            refine pure_ (i := 7) (N := some 86) (v := ?_) (a' := ?_) #[true, true, true, true, true, true, true, true, false] rfl rfl (any_of HT_.out (by kernel_rfl)) (fun _ _ _ h => h) (Or.inl ⟨by rfl, ?_⟩) ?_ ?_
            rotate_left
            ·intro w'
             go_simp
             with_reducible rfl
            rotate_left
            ·simp only [Act.put, yX, yY, yZ, i64_w, i32_w]
             rfl
            refine last_ (i := 8) (N := none) #[true, true, true, true, true, true, true, true, true] rfl rfl (one_of HT_.out (by kernel_rfl)) (by decide) (fun K hK => ?_)
            have hs98 : w94.cell? ⟨gb167, 5, none⟩ = some (u168005) := (yC BK167.out 5).trans rfl
            have hfs98 := yF BK167.out 5
            have hns98_0 := NB166_167.out
            have hms98_0 := NB167_166.out
            refine skip_ (w1 := ?_) (by rfl) rfl ?_ ?_
            rotate_left
            ·go_simp
             rfl
            refine hK.out _ _ ?_
            clear hK K
            refine done_ (done_of HT_.out (by kernel_rfl)) ?_
            try go_wp2
            go_roundg kj28
            case measure => have := HJ3.out; have := HK2.out; have := HJ28.out; omega
            case rel => exact ⟨(false), (t230), (t231), (t232), (t233), (x167000_2), (x167001_2), (x167002_2), (x167003_2), (x168002_2), (x168004_2), (y234), (u168004), (.slice Ao97 y234.length co97), (by first | rfl | (simp; done) | (simp [*]; done)), H', ⟨by have := HJ3.out; have := HK2.out; have := HJ28.out; omega⟩, ⟨by (with_reducible repeat (first | apply Kd.R_alloc | apply Kd.R_drewN | apply Kd.R_drew)); exact Kd.R_mono (Kd.R_far (p := ⟨gb167, 5, none⟩) (Kd.R_mono HO_168004.out (fun k_ hk => (⟨hk, hk.1.2.2.2⟩ : _ ∧ k_ ≠ gb167))) (fun _ hk => hk.2) (.slice Ao97 y234.length co97)) (fun _ hk => ⟨hk.1.2, ⟨hk.1.1.2.2.1, hk.1.1.2.2.2⟩⟩)⟩, ⟨by (with_reducible repeat (first | apply Kd.R_alloc | apply Kd.R_drewN | apply Kd.R_drew)); exact Kd.R_mono (Kd.R_far (p := ⟨gb167, 5, none⟩) (Kd.R_mono HO236.out (fun k_ hk => (⟨hk, hk.2.2⟩ : _ ∧ k_ ≠ gb167))) (fun _ hk => hk.2) (.slice Ao97 y234.length co97)) (fun _ hk => ⟨hk.1.1, ⟨hk.1.2.1, hk.1.2.2⟩⟩)⟩, ⟨by (with_reducible repeat (first | refine yN ?_ _ | refine yD ?_ | refine yA ?_ _)); refine yR ?_ NB166_167.out _; (with_reducible repeat (first | refine yN ?_ _ | refine yD ?_ | refine yA ?_ _)); exact BK166.out⟩, ⟨by (with_reducible repeat (first | refine yN ?_ _ | refine yD ?_ | refine yA ?_ _)); refine blk_put (cs := #[.int .i64 x168000_3, .int .i64 s0_1, .int .i64 x168002_2, .string (⟨#[]⟩ : ByteArray), u168004, u168005]) ?_ 5 _ rfl; (with_reducible repeat (first | refine yN ?_ _ | refine yD ?_ | refine yA ?_ _)); exact BK167.out⟩, ⟨by repeat (first | (with_reducible first | exact HI0.out | apply wA | apply wN | apply wD | apply w_0 | apply w_1 | apply w_2 | apply w_3 | refine wR ?_ NB0_166.out _ | refine wR ?_ NB0_167.out _) | exact HI0.out)⟩, ⟨by repeat (first | (with_reducible first | exact HK.out | apply yK | apply zk | apply zl9 | apply zm | refine keep_far ?_ GW166.out _ | refine keep_far ?_ GW167.out _) | exact HK.out)⟩, ⟨by repeat (first | (with_reducible first | exact HB.out | apply zA | apply zN | apply zD | refine zq9 ?_ (wG HI0.out) | refine zq9 ?_ GE166.out | refine zq9 ?_ GE167.out) | exact HB.out)⟩⟩
           ·rw [if_neg c87] at H
            exact absurd H (by simp)
          ·rw [if_neg c85] at H
           have c85b0 : (x1002_28 == 0) = false := yB c85
           have c85b1 : (x1002_28 != 0) = true := bne_iff_ne.mpr c85
           have H' := yM H
           clear H
           have hnb99 := NB167_166.out
           have hnc99 := NB166_167.out
           have hnb100 := NB167_0.out
           have hnc100 := NB0_167.out
           have hcz101_0 : wc.cell? ⟨gb167, 0, none⟩ = some (.int .i64 x168000_3) := (yC BK167.out 0).trans rfl
           have hcz101_1 : wc.cell? ⟨gb167, 1, none⟩ = some (.int .i64 s0_1) := (yC BK167.out 1).trans rfl
           have hcz101_2 : wc.cell? ⟨gb167, 2, none⟩ = some (.int .i64 x168002_2) := (yC BK167.out 2).trans rfl
           have hcz101_3 : wc.cell? ⟨gb167, 3, none⟩ = some (.string (⟨#[]⟩ : ByteArray)) := (yC BK167.out 3).trans rfl
           have hcz101_4 : wc.cell? ⟨gb167, 4, none⟩ = some (u168004) := (yC BK167.out 4).trans rfl
           have hcz101_5 : wc.cell? ⟨gb167, 5, none⟩ = some (u168005) := (yC BK167.out 5).trans rfl
           have hfz101_0 := yF BK167.out 0
           have hfz101_1 := yF BK167.out 1
           have hfz101_2 := yF BK167.out 2
           have hfz101_3 := yF BK167.out 3
           have hfz101_4 := yF BK167.out 4
           have hfz101_5 := yF BK167.out 5
           obtain ⟨HGz102, hgz102⟩ := HI0.out
           have hcz102_0 := cellS79_0 HGz102
           have hcz102_1 := cellS79_1 HGz102
           have hcz102_2 := cellS79_2 HGz102
           have hcz102_3 := cellS79_3 HGz102
           have hfz102_0 := yF HGz102 0
           have hfz102_1 := yF HGz102 1
           have hfz102_2 := yF HGz102 2
           have hfz102_3 := yF HGz102 3
           clear HGz102 hgz102
           go_wp2
           go_roundg kj28
           case measure => have := HJ3.out; have := HK2.out; have := HJ28.out; omega
           case rel => exact ⟨(false), (x1000_28), (x1001_28), (x1002_28), (x1003_28), (x167000_2), (x167001_2), (x167002_2), (x167003_2), (x168002_2), (x168004_2), (x168005_2), (u168004), (u168005), (by first | rfl | (simp; done) | (simp [*]; done)), H', ⟨by have := HJ3.out; have := HK2.out; have := HJ28.out; omega⟩, ⟨by (with_reducible repeat (first | apply Kd.R_alloc | apply Kd.R_drewN | apply Kd.R_drew)); exact HO_168004.out⟩, ⟨by (with_reducible repeat (first | apply Kd.R_alloc | apply Kd.R_drewN | apply Kd.R_drew)); exact HO_168005.out⟩, ⟨by (with_reducible repeat (first | refine yN ?_ _ | refine yD ?_ | refine yA ?_ _)); exact BK166.out⟩, ⟨by (with_reducible repeat (first | refine yN ?_ _ | refine yD ?_ | refine yA ?_ _)); exact BK167.out⟩, ⟨by repeat (first | (with_reducible first | exact HI0.out | apply wA | apply wN | apply wD | apply w_0 | apply w_1 | apply w_2 | apply w_3 | refine wR ?_ NB0_166.out _ | refine wR ?_ NB0_167.out _) | exact HI0.out)⟩, ⟨by repeat (first | (with_reducible first | exact HK.out | apply yK | apply zk | apply zl9 | apply zm | refine keep_far ?_ GW166.out _ | refine keep_far ?_ GW167.out _) | exact HK.out)⟩, ⟨by repeat (first | (with_reducible first | exact HB.out | apply zA | apply zN | apply zD | refine zq9 ?_ (wG HI0.out) | refine zq9 ?_ GE166.out | refine zq9 ?_ GE167.out) | exact HB.out)⟩⟩
     ·rw [if_neg c16] at H
      have c16b0 : (x1002_2 == 0) = false := yB c16
      have c16b1 : (x1002_2 != 0) = true := bne_iff_ne.mpr c16
      simp only [Option.some.injEq, Prod.mk.injEq] at H
      obtain ⟨rfl, rfl, rfl, rfl, rfl, rfl, rfl, rfl, rfl, rfl⟩ := H
      obtain ⟨HGz103, hgz103⟩ := HI0.out
      have hcz103_0 := cellS79_0 HGz103
      have hcz103_1 := cellS79_1 HGz103
      have hcz103_2 := cellS79_2 HGz103
      have hcz103_3 := cellS79_3 HGz103
      have hfz103_0 := yF HGz103 0
      have hfz103_1 := yF HGz103 1
      have hfz103_2 := yF HGz103 2
      have hfz103_3 := yF HGz103 3
      clear HGz103 hgz103
      have hnb104 := NB167_166.out
      have hnc104 := NB166_167.out
      have hnb105 := NB167_0.out
      have hnc105 := NB0_167.out
      have hcz106_0 : wr.cell? ⟨gb167, 0, none⟩ = some (.int .i64 x168000_3) := (yC BK167.out 0).trans rfl
      have hcz106_1 : wr.cell? ⟨gb167, 1, none⟩ = some (.int .i64 s0_1) := (yC BK167.out 1).trans rfl
      have hcz106_2 : wr.cell? ⟨gb167, 2, none⟩ = some (.int .i64 x168002_2) := (yC BK167.out 2).trans rfl
      have hcz106_3 : wr.cell? ⟨gb167, 3, none⟩ = some (.string (⟨#[]⟩ : ByteArray)) := (yC BK167.out 3).trans rfl
      have hcz106_4 : wr.cell? ⟨gb167, 4, none⟩ = some (u168004) := (yC BK167.out 4).trans rfl
      have hcz106_5 : wr.cell? ⟨gb167, 5, none⟩ = some (u168005) := (yC BK167.out 5).trans rfl
      have hfz106_0 := yF BK167.out 0
      have hfz106_1 := yF BK167.out 1
      have hfz106_2 := yF BK167.out 2
      have hfz106_3 := yF BK167.out 3
      have hfz106_4 := yF BK167.out 4
      have hfz106_5 := yF BK167.out 5
      have hnb107 := NB166_0.out
      have hnc107 := NB0_166.out
      have hcz108_0 : wr.cell? ⟨gb166, 0, none⟩ = some (.int .i64 x167000_2) := (yC BK166.out 0).trans rfl
      have hcz108_1 : wr.cell? ⟨gb166, 1, none⟩ = some (.int .i64 x167001_2) := (yC BK166.out 1).trans rfl
      have hcz108_2 : wr.cell? ⟨gb166, 2, none⟩ = some (.int .i64 x167002_2) := (yC BK166.out 2).trans rfl
      have hcz108_3 : wr.cell? ⟨gb166, 3, none⟩ = some (.string x167003_2) := (yC BK166.out 3).trans rfl
      have hcz108_4 : wr.cell? ⟨gb166, 4, none⟩ = some (.slice none 0 0) := (yC BK166.out 4).trans rfl
      have hcz108_5 : wr.cell? ⟨gb166, 5, none⟩ = some (.slice none 0 0) := (yC BK166.out 5).trans rfl
      have hfz108_0 := yF BK166.out 0
      have hfz108_1 := yF BK166.out 1
      have hfz108_2 := yF BK166.out 2
      have hfz108_3 := yF BK166.out 3
      have hfz108_4 := yF BK166.out 4
      have hfz108_5 := yF BK166.out 5
      obtain ⟨Ao109, co109, eo109⟩ := Kd.R_slice HO_168004.out
      subst eo109
      obtain ⟨Ao110, co110, eo110⟩ := Kd.R_slice HO_168005.out
      subst eo110
      go_wp2
      refine bodyPost_ret (results_cell_row rfl _ _ gb166 67 #[.int .i64 x168000_3, .int .i64 s0_1, .int .i64 x168002_2, .string (⟨#[]⟩ : ByteArray), .slice Ao109 x168004_2.length co109, .slice Ao110 x168005_2.length co110] (0, 0) _ rfl (by (with_reducible repeat (first | refine yN ?_ _ | refine yD ?_ | refine yA ?_ _)); refine blk_put (cs := #[.int .i64 x168000_3, .int .i64 s0_1, .int .i64 x168002_2, .string (⟨#[]⟩ : ByteArray), .slice Ao109 x168004_2.length co109, .slice none 0 0]) ?_ 5 _ rfl; (with_reducible repeat (first | refine yN ?_ _ | refine yD ?_ | refine yA ?_ _)); refine blk_put (cs := #[.int .i64 x168000_3, .int .i64 s0_1, .int .i64 x168002_2, .string (⟨#[]⟩ : ByteArray), .slice none 0 0, .slice none 0 0]) ?_ 4 _ rfl; (with_reducible repeat (first | refine yN ?_ _ | refine yD ?_ | refine yA ?_ _)); refine blk_put (cs := #[.int .i64 x168000_3, .int .i64 s0_1, .int .i64 x168002_2, .string x167003_2, .slice none 0 0, .slice none 0 0]) ?_ 3 _ rfl; (with_reducible repeat (first | refine yN ?_ _ | refine yD ?_ | refine yA ?_ _)); refine blk_put (cs := #[.int .i64 x168000_3, .int .i64 s0_1, .int .i64 x167002_2, .string x167003_2, .slice none 0 0, .slice none 0 0]) ?_ 2 _ rfl; (with_reducible repeat (first | refine yN ?_ _ | refine yD ?_ | refine yA ?_ _)); refine blk_put (cs := #[.int .i64 x168000_3, .int .i64 x167001_2, .int .i64 x167002_2, .string x167003_2, .slice none 0 0, .slice none 0 0]) ?_ 1 _ rfl; (with_reducible repeat (first | refine yN ?_ _ | refine yD ?_ | refine yA ?_ _)); refine blk_put (cs := #[.int .i64 x167000_2, .int .i64 x167001_2, .int .i64 x167002_2, .string x167003_2, .slice none 0 0, .slice none 0 0]) ?_ 0 _ rfl; (with_reducible repeat (first | refine yN ?_ _ | refine yD ?_ | refine yA ?_ _)); exact BK166.out) Tryd.underlying67 rfl (by kernel_rfl)) rfl ?_
      exact ⟨_, _, by first | rfl | (simp [errW_none, errW_some] <;> rfl) | (simp [*, errW_none, errW_some] <;> rfl), by (with_reducible repeat (first | apply Kd.R_alloc | apply Kd.R_drewN | apply Kd.R_drew)); exact Kd.R_mono (Kd.R_far (p := ⟨gb166, 5, none⟩) (Kd.R_far (p := ⟨gb166, 4, none⟩) (Kd.R_far (p := ⟨gb166, 3, none⟩) (Kd.R_far (p := ⟨gb166, 2, none⟩) (Kd.R_far (p := ⟨gb166, 1, none⟩) (Kd.R_far (p := ⟨gb166, 0, none⟩) (Kd.R_mono HO_168004.out (fun k_ hk => (⟨hk, hk.2.1⟩ : _ ∧ k_ ≠ gb166))) (fun _ hk => hk.2) (.int .i64 x168000_3)) (fun _ hk => hk.2) (.int .i64 s0_1)) (fun _ hk => hk.2) (.int .i64 x168002_2)) (fun _ hk => hk.2) (.string (⟨#[]⟩ : ByteArray))) (fun _ hk => hk.2) (.slice Ao109 x168004_2.length co109)) (fun _ hk => hk.2) (.slice Ao110 x168005_2.length co110)) (fun _ hk => hk.1.1), by (with_reducible repeat (first | apply Kd.R_alloc | apply Kd.R_drewN | apply Kd.R_drew)); exact Kd.R_mono (Kd.R_far (p := ⟨gb166, 5, none⟩) (Kd.R_far (p := ⟨gb166, 4, none⟩) (Kd.R_far (p := ⟨gb166, 3, none⟩) (Kd.R_far (p := ⟨gb166, 2, none⟩) (Kd.R_far (p := ⟨gb166, 1, none⟩) (Kd.R_far (p := ⟨gb166, 0, none⟩) (Kd.R_mono HO_168005.out (fun k_ hk => (⟨hk, hk.2.1⟩ : _ ∧ k_ ≠ gb166))) (fun _ hk => hk.2) (.int .i64 x168000_3)) (fun _ hk => hk.2) (.int .i64 s0_1)) (fun _ hk => hk.2) (.int .i64 x168002_2)) (fun _ hk => hk.2) (.string (⟨#[]⟩ : ByteArray))) (fun _ hk => hk.2) (.slice Ao109 x168004_2.length co109)) (fun _ hk => hk.2) (.slice Ao110 x168005_2.length co110)) (fun _ hk => hk.1.1), by repeat (first | (with_reducible first | exact HI0.out | apply wA | apply wN | apply wD | apply w_0 | apply w_1 | apply w_2 | apply w_3 | refine wR ?_ NB0_166.out _ | refine wR ?_ NB0_167.out _) | exact HI0.out), by repeat (first | (with_reducible first | exact HB.out | apply zA | apply zN | apply zD | refine zq9 ?_ (wG HI0.out) | refine zq9 ?_ GE166.out | refine zq9 ?_ GE167.out) | exact HB.out), by repeat (first | (with_reducible first | exact HK.out | apply yK | apply zk | apply zl9 | apply zm | refine keep_far ?_ GW166.out _ | refine keep_far ?_ GW167.out _) | exact HK.out)⟩
end Go.Proofs.YtbpiahpkbapijaaDoor.J
end
