/- For every text and every list of places: scan.Line answers what the document's Line answers. No condition but that the text has at most 2^47 - 4096 bytes. -/
import Derived.Test.YtabgnbbljjohdaaRU
import Derived.Lib.LastIndexByte
import Derived.Test.YtabgnbbljjohdaaRAx
namespace Go.Proofs.YtabgnbbljjohdaaR.Pure
open Go.RowKit Go.Proofs.YtabgnbbljjohdaaR.A Go.Proofs.YtabgnbbljjohdaaRW.PrintWords Go.Proofs.YtabgnbbljjohdaaR.U

theorem lastIdx_ext (s t : ByteArray) (c : Int) (n : Nat) (hs : n ≤ s.size) (ht : n ≤ t.size) (h : ∀ i : Nat, i < n → s.data[i]! = t.data[i]!) : Lib.lastIdx s c n = Lib.lastIdx t c n := by
  induction n with
  | zero => rfl
  | succ n ih =>
    simp only [Lib.lastIdx]
    rw [h n (by omega), ih (by omega) (by omega) (fun i hi => h i (by omega))]
theorem bang_bt (s : ByteArray) (i : Nat) (h : i < s.size) : ((s.data[i]!).toNat : Int) = bt s (i : Int) := by
  unfold bt
  rw [dif_pos (by simpa using h)]
  have h' : i < s.data.size := h
  rw [getElem!_pos s.data i h']
  simp only [Int.toNat_natCast]
  rfl
theorem bang_eq (s t : ByteArray) (i : Nat) (h : i < s.size) (h2 : i < t.size) (e : bt s (i : Int) = bt t (i : Int)) : s.data[i]! = t.data[i]! := by
  rw [← bang_bt s i h, ← bang_bt t i h2] at e
  exact UInt8.toNat_inj.mp (Int.ofNat.inj e)
theorem lastIdx_cut (s : ByteArray) (c : Int) (n : Nat) (h : n ≤ s.size) : Lib.lastIndexByte (s.extract 0 n) c = Lib.lastIdx s c n := by
  have hs := size_extract s 0 n h
  unfold Lib.lastIndexByte
  rw [show (s.extract 0 n).size = n by omega]
  refine lastIdx_ext _ _ c n (by omega) h (fun i hi => bang_eq _ _ i (by omega) (by omega) ?_)
  rw [bt_extract s 0 n h i (by omega) (by omega)]
  simp
theorem list_extract (s : ByteArray) (n : Nat) (_h : n ≤ s.size) : (s.extract 0 n).data.toList = s.data.toList.take n := by
  rw [ByteArray.data_extract]
  simp [Array.toList_extract, List.extract]
theorem count_step (s : ByteArray) (n : Nat) (h : n < s.size) : Lib.countByte (s.extract 0 (n + 1)).data.toList 10 = Lib.countByte (s.extract 0 n).data.toList 10 + if bt s (n : Int) = 10 then 1 else 0 := by
  obtain ⟨h1, h2⟩ := bt_list s (n : Int) (by omega) (by omega)
  simp only [Int.toNat_natCast] at h1 h2
  rw [list_extract s n (by omega), list_extract s (n + 1) (by omega), List.take_succ_eq_append_getElem h1]
  unfold Lib.countByte
  rw [List.count_append]
  congr 1
  rw [h2]
  by_cases e : (s.data.toList)[n] = 10
  · rw [e]; simp
  · have e2 : ¬ (((s.data.toList)[n].toNat : Nat) : Int) = 10 := by
      intro h
      apply e
      apply UInt8.toNat_inj.mp
      have : (s.data.toList)[n].toNat = 10 := by omega
      rw [this]; rfl
    rw [if_neg e2]
    rw [List.count_singleton]
    exact if_neg (by simpa using e)

theorem line_from (s : ByteArray) (hs : s.size ≤ 140737488355328) (at_ : Nat) (ha : at_ ≤ s.size) (d : Nat) : ∀ i : Nat, i ≤ at_ → at_ - i = d →
    Ev (fun k => sigilref4_Line.l0 k s (at_ : Int) ((Lib.countByte (s.extract 0 i).data.toList 10 : Nat) + 1 : Int) ((i : Int) - Lib.lastIdx s 10 i) (i : Int))
      (((Lib.countByte (s.extract 0 at_).data.toList 10 : Nat) : Int) + 1, (at_ : Int) - Lib.lastIdx s 10 at_, 0) := by
  induction d with
  | zero =>
    intro i hi hd
    obtain rfl : i = at_ := by omega
    refine Ev.step (f := fun _ => some _) (fun k => ?_) (Ev.now _)
    simp only [sigilref4_Line.l0]; rw [if_neg (by omega)]
  | succ d ih =>
    intro i hi hd
    have hlt : i < at_ := by omega
    have hc := count_step s i (by omega)
    have hle : Lib.countByte (s.extract 0 i).data.toList 10 ≤ s.size := by
      unfold Lib.countByte
      refine Nat.le_trans List.count_le_length ?_
      rw [list_extract s i (by omega), List.length_take, Array.length_toList, size_data]
      omega
    have hL : -1 ≤ Lib.lastIdx s 10 i ∧ Lib.lastIdx s 10 i ≤ i := by
      rcases Lib.lastIdx_spec s 10 i with ⟨h, _⟩ | ⟨j, hj, h, _⟩ <;> omega
    have h := ih (i + 1) (by omega) (by omega)
    have hl : Lib.lastIdx s 10 (i + 1) = if bt s (i : Int) = 10 then (i : Int) else Lib.lastIdx s 10 i := by
      simp only [Lib.lastIdx]
      rw [bang_bt s i (by omega)]
    by_cases c : bt s (i : Int) = 10
    · rw [if_pos c] at hc hl
      refine Ev.step (f := fun k => sigilref4_Line.l0 k s (at_ : Int) ((Lib.countByte (s.extract 0 (i + 1)).data.toList 10 : Nat) + 1 : Int) (((i + 1 : Nat) : Int) - Lib.lastIdx s 10 (i + 1)) ((i + 1 : Nat) : Int)) (fun k => ?_) h
      simp only [sigilref4_Line.l0]
      rw [if_pos (by omega), if_pos (by omega), if_pos (by omega), if_pos c, w64 (by omega) (by omega), w64 (by omega) (by omega), hc, hl]
      congr 1 <;> omega
    · rw [if_neg c] at hc hl
      refine Ev.step (f := fun k => sigilref4_Line.l0 k s (at_ : Int) ((Lib.countByte (s.extract 0 (i + 1)).data.toList 10 : Nat) + 1 : Int) (((i + 1 : Nat) : Int) - Lib.lastIdx s 10 (i + 1)) ((i + 1 : Nat) : Int)) (fun k => ?_) h
      simp only [sigilref4_Line.l0]
      rw [if_pos (by omega), if_pos (by omega), if_pos (by omega), if_neg c, w64 (by omega) (by omega), w64 (by omega) (by omega), hc, hl]
      congr 1 <;> omega

theorem line_both (s : ByteArray) (hs : s.size ≤ 140737488355328) (p : Int) : ∃ r, Ev (fun k => scan_Line.f k s p) r ∧ Ev (fun k => sigilref4_Line.f k s p) r := by
  by_cases c : (s.size : Int) > 65536
  · exact ⟨(0, 0, 2), Ev.some' _ (fun k => by simp only [scan_Line.f]; rw [if_pos c]), Ev.some' _ (fun k => by simp only [sigilref4_Line.f]; rw [if_pos c])⟩
  · by_cases c2 : p < 0 ∨ p > (s.size : Int)
    · refine ⟨(0, 0, 46), ?_, ?_⟩
      · refine Ev.congr (f := fun k => scan_Line.j0 k s p true) (fun k => ?_) (Ev.step (f := fun _ => some _) (fun k => by simp [scan_Line.j0]) (Ev.now _))
        simp only [scan_Line.f]; rw [if_neg c]
        by_cases c3 : p < 0
        · rw [if_pos c3]
        · rw [if_neg c3, show decide (p > (s.size : Int)) = true from decide_eq_true (by omega)]
      · refine Ev.congr (f := fun k => sigilref4_Line.j0 k s p true) (fun k => ?_) (Ev.step (f := fun _ => some _) (fun k => by simp [sigilref4_Line.j0]) (Ev.now _))
        simp only [sigilref4_Line.f]; rw [if_neg c]
        by_cases c3 : p < 0
        · rw [if_pos c3]
        · rw [if_neg c3, show decide (p > (s.size : Int)) = true from decide_eq_true (by omega)]
    · obtain ⟨n, rfl⟩ : ∃ n : Nat, p = (n : Int) := ⟨p.toNat, by omega⟩
      have hn : n ≤ s.size := by omega
      have hx := size_extract s 0 n hn
      have hle : Lib.countByte (s.extract 0 n).data.toList 10 ≤ s.size := by
        unfold Lib.countByte
        refine Nat.le_trans List.count_le_length ?_
        rw [list_extract s n hn, List.length_take, Array.length_toList, size_data]
        omega
      have hL : -1 ≤ Lib.lastIdx s 10 n ∧ Lib.lastIdx s 10 n ≤ n := by
        rcases Lib.lastIdx_spec s 10 n with ⟨h, _⟩ | ⟨j, hj, h, _⟩ <;> omega
      refine ⟨(((Lib.countByte (s.extract 0 n).data.toList 10 : Nat) : Int) + 1, (n : Int) - Lib.lastIdx s 10 n, 0), ?_, ?_⟩
      · refine Ev.congr (f := fun k => scan_Line.j0 k s n false) (fun k => ?_) (Ev.step (f := fun _ => some _) (fun k => ?_) (Ev.now _))
        · simp only [scan_Line.f]; rw [if_neg c, if_neg (by omega), show decide ((n : Int) > (s.size : Int)) = false from decide_eq_false (by omega)]
        · simp only [scan_Line.j0]
          rw [if_neg Bool.false_ne_true, if_pos (by omega), if_pos (by omega)]
          simp only [strings_Count.f, strings_LastIndexByte.f, Int.toNat_natCast]
          rw [if_pos trivial, if_pos (by omega)]
          simp only [Option.bind_some]
          rw [lastIdx_cut s 10 n hn, w64 (by omega) (by omega), w64 (by omega) (by omega)]
      · refine Ev.congr (f := fun k => sigilref4_Line.j0 k s n false) (fun k => ?_) (Ev.step (f := fun k => sigilref4_Line.l0 k s n 1 1 0) (fun k => ?_) ?_)
        · simp only [sigilref4_Line.f]; rw [if_neg c, if_neg (by omega), show decide ((n : Int) > (s.size : Int)) = false from decide_eq_false (by omega)]
        · simp only [sigilref4_Line.j0]
          rw [if_neg Bool.false_ne_true]
        · have h := line_from s hs n hn n 0 (by omega) (by omega)
          have e : Lib.countByte (s.extract 0 0).data.toList 10 = 0 := by rw [list_extract s 0 (by omega)]; rfl
          rw [e] at h
          exact h

theorem lines_from (s : ByteArray) (hs : s.size ≤ 140737488355328) (l : List Int) (hl : l.length ≤ 140737488355328) (d : Nat) : ∀ i : Int, 0 ≤ i → i ≤ l.length → (l.length : Int) - i = d →
    Ev (fun k => sigillaw4_ScanLines.l0 k s l i) true := by
  induction d with
  | zero =>
    intro i h0 h1 hd
    exact Ev.step (f := fun _ => some true) (fun k => by simp only [sigillaw4_ScanLines.l0]; rw [if_neg (by omega)]) (Ev.now _)
  | succ d ih =>
    intro i h0 h1 hd
    obtain ⟨b, hb1, hb2⟩ := line_both s hs (rd l i)
    refine Ev.step (f := fun k => (scan_Line.f k s (rd l i)).bind fun t => (sigilref4_Line.f k s (rd l i)).bind fun u => if t.1 = u.1 then (if t.2.1 = u.2.1 then (if t.2.2 = u.2.2 then sigillaw4_ScanLines.l0 k s l (wrap64 (i + 1)) else some false) else some false) else some false) (fun k => ?_) (Ev.bind hb1 (Ev.bind hb2 ?_))
    · simp only [sigillaw4_ScanLines.l0]; rw [if_pos (by omega), if_pos h0]
    · rw [w64 (by omega) (by omega)]
      simp only [if_true]
      exact ih (i + 1) (by omega) (by omega) (by omega)
set_option maxRecDepth 100000 in
theorem line1 : scan_Line.f 12 (⟨#[97, 10, 98, 99]⟩ : ByteArray) 3 = some (2, 2, 0) := by decide +kernel
theorem ScanLines : sigillaw4_ScanLines.Pure := by
  intro s l hs hm hl _
  refine Ev.rounds (g := fun k => sigillaw4_ScanLines.f k s l) ?_
  refine Ev.congr (f := fun k => (scan_Line.f k (⟨#[97, 10, 98, 99]⟩ : ByteArray) 3).bind fun b => if b.1 = 2 then (if b.2.1 = 2 then sigillaw4_ScanLines.j0 k s l (b.2.2 != 0) else sigillaw4_ScanLines.j0 k s l true) else sigillaw4_ScanLines.j0 k s l true) (fun k => rfl) ?_
  refine Ev.bind (Ev.of (scan_Line.mono _ _) line1) ?_
  refine Ev.step (f := fun k => sigillaw4_ScanLines.l0 k s l 0) (fun k => by simp [sigillaw4_ScanLines.j0]) ?_
  exact lines_from s (by omega) l (by omega) l.length 0 (by omega) (by omega) (by omega)
end Go.Proofs.YtabgnbbljjohdaaR.Pure
