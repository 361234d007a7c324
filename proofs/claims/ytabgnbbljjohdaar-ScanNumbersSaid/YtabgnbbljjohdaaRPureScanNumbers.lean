/- For every list of texts of at most 2^47 - 4096 bytes each: scan.Number answers what the document's Number answers. No other condition. -/
import Derived.Test.YtabgnbbljjohdaaRScan1
namespace Go.Proofs.YtabgnbbljjohdaaR.Pure
open Go.RowKit Go.Proofs.YtabgnbbljjohdaaR.A Go.Proofs.YtabgnbbljjohdaaRW.PrintWords Go.Proofs.YtabgnbbljjohdaaR.U Go.Proofs.YtabgnbbljjohdaaR.Scan1

/-- The two loops over the digits, from place from + i on, do the same. -/
theorem digits_from (s : ByteArray) (hs : s.size ≤ 140737488355328) (base : Int) (hb : base = 8 ∨ base = 10 ∨ base = 16) (from_ : Nat) (hf : from_ < s.size) (t : ByteArray) (ht : t = s.extract from_ s.size ∨ (from_ = 0 ∧ t = s)) (d : Nat) :
    ∀ (n i : Int), 0 ≤ i → i ≤ (s.size : Int) - from_ → (s.size : Int) - from_ - i = d →
    ∃ r, Ev (fun k => scan_worth.l0 k base t n (t.size : Int) i) r ∧ Ev (fun k => sigilref4_Digits.l0 k s base n ((from_ : Int) + i)) r := by
  have hsz : t.size = s.size - from_ := by
    rcases ht with h | ⟨h0, h⟩
    · rw [h, size_extract s from_ s.size (Nat.le_refl _)]
    · rw [h, h0]; omega
  have hbt : ∀ i : Int, 0 ≤ i → i < (s.size : Int) - from_ → bt t i = bt s ((from_ : Int) + i) := by
    intro i h0 h1
    rcases ht with h | ⟨h2, h⟩
    · rw [h]; exact bt_extract s from_ s.size (Nat.le_refl _) i h0 h1
    · rw [h, h2]; congr 1; omega
  induction d with
  | zero =>
    intro n i h0 h1 hd
    refine ⟨(n, true), Ev.step (f := fun _ => some (n, true)) (fun k => ?_) (Ev.now _), Ev.step (f := fun _ => some (n, true)) (fun k => ?_) (Ev.now _)⟩
    · simp only [scan_worth.l0]; rw [if_neg (by omega)]; simp; omega
    · simp only [sigilref4_Digits.l0]; rw [if_neg (by omega)]
  | succ d ih =>
    intro n i h0 h1 hd
    have hv := value_ev t i
    have hx := hex_ev s ((from_ : Int) + i)
    rw [← hbt i h0 (by omega)] at hx
    have hr := hexv_range t i
    have e1 : ∀ k, scan_worth.l0 (k + 1) base t n (t.size : Int) i = (scan_value.f k (bt t i)).bind fun t115 => (if t115 ≥ base then (some (0, false)) else (if base = 0 then (none) else (if n > (wrap64 (Int.tdiv (wrap64 (9223372036854775807 - t115)) base)) then (some (0, false)) else (scan_worth.l0 k base t (wrap64 ((wrap64 (n * base)) + t115)) (t.size : Int) (wrap64 (i + 1)))))) := by
      intro k; simp only [scan_worth.l0]; rw [if_pos (by omega), if_pos h0, if_pos (by omega)]
    have e2 : ∀ k, sigilref4_Digits.l0 (k + 1) s base n ((from_ : Int) + i) = (sigilref4_hex.f k (bt t i)).bind fun t118 => (if t118 < 0 then (some (0, false)) else (if t118 ≥ base then (some (0, false)) else (if base = 0 then (none) else (if n > (wrap64 (Int.tdiv (wrap64 (9223372036854775807 - t118)) base)) then (some (0, false)) else (sigilref4_Digits.l0 k s base (wrap64 ((wrap64 (n * base)) + t118)) (wrap64 ((from_ : Int) + i + 1))))))) := by
      intro k; simp only [sigilref4_Digits.l0]; rw [if_pos (by omega), if_pos (by omega), hbt i h0 (by omega)]
    by_cases c1 : hexv (bt t i) < 0
    · rw [if_pos c1] at hv
      refine ⟨(0, false), Ev.step e1 (Ev.bind hv ?_), Ev.step e2 (Ev.bind hx ?_)⟩
      · simp only [if_pos (show (99 : Int) ≥ base by omega)]; exact Ev.now _
      · simp only [if_pos c1]; exact Ev.now _
    · rw [if_neg c1] at hv
      by_cases c2 : hexv (bt t i) ≥ base
      · refine ⟨(0, false), Ev.step e1 (Ev.bind hv ?_), Ev.step e2 (Ev.bind hx ?_)⟩
        · simp only [if_pos c2]; exact Ev.now _
        · simp only [if_neg c1, if_pos c2]; exact Ev.now _
      · by_cases c3 : n > (wrap64 (Int.tdiv (wrap64 (9223372036854775807 - hexv (bt t i))) base))
        · refine ⟨(0, false), Ev.step e1 (Ev.bind hv ?_), Ev.step e2 (Ev.bind hx ?_)⟩
          · simp only [if_neg c2, if_neg (show ¬ base = 0 by omega), if_pos c3]; exact Ev.now _
          · simp only [if_neg c1, if_neg c2, if_neg (show ¬ base = 0 by omega), if_pos c3]; exact Ev.now _
        · obtain ⟨r, h1', h2'⟩ := ih (wrap64 ((wrap64 (n * base)) + hexv (bt t i))) (i + 1) (by omega) (by omega) (by omega)
          refine ⟨r, Ev.step e1 (Ev.bind hv ?_), Ev.step e2 (Ev.bind hx ?_)⟩
          · simp only [if_neg c2, if_neg (show ¬ base = 0 by omega), if_neg c3]; rw [w64 (n := i + 1) (by omega) (by omega)]; exact h1'
          · simp only [if_neg c1, if_neg c2, if_neg (show ¬ base = 0 by omega), if_neg c3]; rw [show (from_ : Int) + i + 1 = (from_ : Int) + (i + 1) by omega, w64 (n := (from_ : Int) + (i + 1)) (by omega) (by omega)]; exact h2'

/-- From the digits' begin on both come to the same, also where none stand. -/
theorem tail_both (s : ByteArray) (hs : s.size ≤ 140737488355328) (base : Int) (hb : base = 8 ∨ base = 10 ∨ base = 16) (from_ : Nat) (hf : from_ ≤ s.size) (t : ByteArray) (ht : t = s.extract from_ s.size ∨ (from_ = 0 ∧ t = s)) :
    ∃ r, Ev (fun k => scan_worth.j1 k base t) r ∧ Ev (fun k => sigilref4_Digits.j1 k s base (from_ : Int)) r := by
  by_cases c : from_ < s.size
  · obtain ⟨r, h1, h2⟩ := digits_from s hs base hb from_ c t ht (s.size - from_) 0 0 (by omega) (by omega) (by omega)
    refine ⟨r, Ev.step (f := fun k => scan_worth.l0 k base t 0 (t.size : Int) 0) (fun k => by simp only [scan_worth.j1]) h1, Ev.step (f := fun k => sigilref4_Digits.l0 k s base 0 (from_ : Int)) (fun k => ?_) (by simpa using h2)⟩
    simp only [sigilref4_Digits.j1]; rw [if_neg (by omega)]
  · have hz : t.size = 0 := by
      rcases ht with h | ⟨h0, h⟩
      · rw [h, size_extract s from_ s.size (Nat.le_refl _)]; omega
      · rw [h]; omega
    refine ⟨(0, false), Ev.step (f := fun k => scan_worth.l0 k base t 0 (t.size : Int) 0) (fun k => by simp only [scan_worth.j1]) (Ev.step (f := fun _ => some (0, false)) (fun k => ?_) (Ev.now _)), Ev.step (f := fun _ => some (0, false)) (fun k => ?_) (Ev.now _)⟩
    · simp only [scan_worth.l0]; rw [hz]; simp
    · simp only [sigilref4_Digits.j1]; rw [if_pos (by omega)]

theorem worth_both (s : ByteArray) (hs : s.size ≤ 140737488355328) : ∃ r, Ev (fun k => scan_worth.f k s) r ∧ Ev (fun k => sigilref4_Digits.f k s) r := by
  by_cases c1 : (s.size : Int) > 1
  · by_cases c2 : bt s 0 = 48
    · have d0 : ∀ k, sigilref4_Digits.f k s = sigilref4_Digits.j0 k s 10 0 true := by
        intro k; simp only [sigilref4_Digits.f]; rw [if_pos c1, if_pos (by omega), c2]; rfl
      by_cases c3 : bt s 1 = 120 ∨ bt s 1 = 88
      · obtain ⟨r, h1, h2⟩ := tail_both s hs 16 (by omega) 2 (by omega) (s.extract 2 s.size) (.inl rfl)
        refine ⟨r, ?_, Ev.congr d0 (Ev.step (f := fun k => sigilref4_Digits.j1 k s 16 2) (fun k => ?_) h2)⟩
        · refine Ev.congr (f := fun k => scan_worth.j0 k s 10 s true) (fun k => ?_) (Ev.step (f := fun k => scan_worth.j1 k 16 (s.extract 2 s.size)) (fun k => ?_) h1)
          · simp only [scan_worth.f]; rw [if_pos c1, if_pos (by omega), if_pos c2, if_pos (by omega)]
            rcases c3 with c3 | c3
            · rw [if_pos c3]
            · rw [if_neg (by omega), c3]; rfl
          · simp only [scan_worth.j0]; rw [if_pos trivial, if_pos (by omega)]
        · simp only [sigilref4_Digits.j0]; rw [if_pos trivial, if_pos (by omega)]
          rcases c3 with c3 | c3
          · rw [if_pos c3]
          · rw [if_neg (by omega), if_pos c3]
      · obtain ⟨r, h1, h2⟩ := tail_both s hs 8 (by omega) 1 (by omega) (s.extract 1 s.size) (.inl rfl)
        refine ⟨r, ?_, Ev.congr d0 (Ev.step (f := fun k => sigilref4_Digits.j1 k s 8 1) (fun k => ?_) h2)⟩
        · refine Ev.congr (f := fun k => scan_worth.j0 k s 10 s false) (fun k => ?_) (Ev.step (f := fun k => scan_worth.j1 k 8 (s.extract 1 s.size)) (fun k => ?_) h1)
          · simp only [scan_worth.f]; rw [if_pos c1, if_pos (by omega), if_pos c2, if_pos (by omega), if_neg (by omega), show (bt s 1 == 88) = false from beq_eq_false_iff_ne.mpr (by omega)]
          · simp only [scan_worth.j0]; rw [if_neg Bool.false_ne_true, if_pos c1, if_pos (by omega), if_pos c2, if_pos (by omega)]
        · simp only [sigilref4_Digits.j0]; rw [if_pos trivial, if_pos (by omega), if_neg (by omega), if_neg (by omega)]
    · obtain ⟨r, h1, h2⟩ := tail_both s hs 10 (by omega) 0 (by omega) s (.inr ⟨rfl, rfl⟩)
      refine ⟨r, ?_, ?_⟩
      · refine Ev.congr (f := fun k => scan_worth.j0 k s 10 s false) (fun k => ?_) (Ev.step (f := fun k => scan_worth.j1 k 10 s) (fun k => ?_) h1)
        · simp only [scan_worth.f]; rw [if_pos c1, if_pos (by omega), if_neg c2]
        · simp only [scan_worth.j0]; rw [if_neg Bool.false_ne_true, if_pos c1, if_pos (by omega), if_neg c2]
      · refine Ev.congr (f := fun k => sigilref4_Digits.j0 k s 10 0 false) (fun k => ?_) (Ev.step (f := fun k => sigilref4_Digits.j1 k s 10 0) (fun k => ?_) h2)
        · simp only [sigilref4_Digits.f]; rw [if_pos c1, if_pos (by omega), show (bt s 0 == 48) = false from beq_eq_false_iff_ne.mpr c2]
        · simp only [sigilref4_Digits.j0]; rw [if_neg Bool.false_ne_true]
  · obtain ⟨r, h1, h2⟩ := tail_both s hs 10 (by omega) 0 (by omega) s (.inr ⟨rfl, rfl⟩)
    refine ⟨r, ?_, ?_⟩
    · refine Ev.congr (f := fun k => scan_worth.j0 k s 10 s false) (fun k => ?_) (Ev.step (f := fun k => scan_worth.j1 k 10 s) (fun k => ?_) h1)
      · simp only [scan_worth.f]; rw [if_neg c1]
      · simp only [scan_worth.j0]; rw [if_neg Bool.false_ne_true, if_neg c1]
    · refine Ev.congr (f := fun k => sigilref4_Digits.j0 k s 10 0 false) (fun k => ?_) (Ev.step (f := fun k => sigilref4_Digits.j1 k s 10 0) (fun k => ?_) h2)
      · simp only [sigilref4_Digits.f]; rw [if_neg c1]
      · simp only [sigilref4_Digits.j0]; rw [if_neg Bool.false_ne_true]

theorem number_both (s : ByteArray) (hs : s.size ≤ 140737488355328) : ∃ r, Ev (fun k => scan_Number.f k s) r ∧ Ev (fun k => sigilref4_Number.f k s) r := by
  by_cases c : (s.size : Int) > 65536
  · exact ⟨(0, 2), Ev.some' _ (fun k => by simp only [scan_Number.f]; rw [if_pos c]), Ev.some' _ (fun k => by simp only [sigilref4_Number.f]; rw [if_pos c])⟩
  · obtain ⟨r, h1, h2⟩ := worth_both s hs
    refine ⟨if r.2 = true then (r.1, 0) else (0, 41), ?_, ?_⟩
    · refine Ev.congr (f := fun k => (scan_worth.f k s).bind fun b => if b.2 = true then some (b.1, 0) else some (0, 41)) (fun k => by simp only [scan_Number.f]; rw [if_neg c]) (Ev.bind h1 (Ev.some' _ (fun k => by split <;> rfl)))
    · refine Ev.congr (f := fun k => (sigilref4_Digits.f k s).bind fun b => if b.2 = true then some (b.1, 0) else some (0, 41)) (fun k => by simp only [sigilref4_Number.f]; rw [if_neg c]) (Ev.bind h2 (Ev.some' _ (fun k => by split <;> rfl)))

theorem rd_mem' (l : List ByteArray) (i : Int) (h0 : 0 ≤ i) (h1 : i < (l.length : Int)) : rdOf ByteArray.empty l i ∈ l := by
  unfold rdOf
  rw [List.getD_eq_getElem?_getD, List.getElem?_eq_getElem (by omega)]
  exact List.getElem_mem _
theorem numbers_from (l : List ByteArray) (hl : l.length ≤ 140737488355328) (hs : ∀ s ∈ l, s.size ≤ 140737488355328) (d : Nat) : ∀ i : Int, 0 ≤ i → i ≤ l.length → (l.length : Int) - i = d →
    Ev (fun k => sigillaw4_ScanNumbers.l0 k l i) true := by
  induction d with
  | zero =>
    intro i h0 h1 hd
    exact Ev.step (f := fun _ => some true) (fun k => by simp only [sigillaw4_ScanNumbers.l0]; rw [if_neg (by omega)]) (Ev.now _)
  | succ d ih =>
    intro i h0 h1 hd
    obtain ⟨b, hb1, hb2⟩ := number_both (rdOf ByteArray.empty l i) (hs _ (rd_mem' l i h0 (by omega)))
    refine Ev.step (f := fun k => (scan_Number.f k (rdOf ByteArray.empty l i)).bind fun t => (sigilref4_Number.f k (rdOf ByteArray.empty l i)).bind fun u => if t.1 = u.1 then (if t.2 = u.2 then sigillaw4_ScanNumbers.l0 k l (wrap64 (i + 1)) else some false) else some false) (fun k => ?_) (Ev.bind hb1 (Ev.bind hb2 ?_))
    · simp only [sigillaw4_ScanNumbers.l0]; rw [if_pos (by omega), if_pos h0]
    · rw [w64 (by omega) (by omega)]
      simp only [if_true]
      exact ih (i + 1) (by omega) (by omega) (by omega)
set_option maxRecDepth 100000 in
theorem number1 : scan_Number.f 12 (⟨#[48, 120, 49, 102]⟩ : ByteArray) = some (31, 0) := by decide +kernel
theorem ScanNumbers (l : List ByteArray) (hl : l.length ≤ 140737488355328) (hs : ∀ s ∈ l, s.size ≤ 140737488355328) : ∃ k, sigillaw4_ScanNumbers.f k l = some true := by
  refine Ev.rounds (g := fun k => sigillaw4_ScanNumbers.f k l) ?_
  refine Ev.congr (f := fun k => (scan_Number.f k (⟨#[48, 120, 49, 102]⟩ : ByteArray)).bind fun b => if b.1 = 31 then sigillaw4_ScanNumbers.j0 k l (b.2 != 0) else sigillaw4_ScanNumbers.j0 k l true) (fun k => rfl) ?_
  refine Ev.bind (Ev.of (scan_Number.mono _) number1) ?_
  refine Ev.step (f := fun k => sigillaw4_ScanNumbers.l0 k l 0) (fun k => by simp [sigillaw4_ScanNumbers.j0]) ?_
  exact numbers_from l hl hs l.length 0 (by omega) (by omega) (by omega)
end Go.Proofs.YtabgnbbljjohdaaR.Pure
