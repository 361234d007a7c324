/- The worth of a number's digits: scan's and the document's, for every text. -/
import Derived.Test.YtabgnbbljjohdaaRDoorScan1
namespace Go.Proofs.YtabgnbbljjohdaaRDoor.Worth
open Go.RowKit Go.Proofs.YtabgnbbljjohdaaRDoor.A Go.Proofs.YtabgnbbljjohdaaRDoorW.PrintWords Go.Proofs.YtabgnbbljjohdaaRDoor.U Go.Proofs.YtabgnbbljjohdaaRDoor.Scan1

/-- The two loops over the digits, from place from + i on, do the same. -/
theorem digits_from (s : ByteArray) (hs : s.size ≤ 140737488355328) (base : Int) (hb : base = 8 ∨ base = 10 ∨ base = 16) (from_ : Nat) (hf : from_ < s.size) (t : ByteArray) (ht : t = s.extract from_ s.size ∨ (from_ = 0 ∧ t = s)) (d : Nat) :
    ∀ (n i : Int), 0 ≤ i → i ≤ (s.size : Int) - from_ → (s.size : Int) - from_ - i = d →
    ∃ r, Ev (fun k => scan_worth.l0 k base t n (t.size : Int) i) r ∧ Ev (fun k => sigilref4_Digits.l0 k s base n ((from_ : Int) + i)) r := by
  have hsz : t.size = s.size - from_ := by
    rcases ht with h | ⟨h0, h⟩
    · rw [h, size_extract s from_ s.size (Nat.le_refl _)]
    · rw [h, h0]; omega
  have hbt : ∀ i : Int, 0 ≤ i → i < (s.size : Int) - from_ → bt t i = bt s ((from_ : Int) + i) := by
    intro i h0 h1
    rcases ht with h | ⟨h2, h⟩
    · rw [h]; exact bt_extract s from_ s.size (Nat.le_refl _) i h0 h1
    · rw [h, h2]; congr 1; omega
  induction d with
  | zero =>
    intro n i h0 h1 hd
    refine ⟨(n, true), Ev.step (f := fun _ => some (n, true)) (fun k => ?_) (Ev.now _), Ev.step (f := fun _ => some (n, true)) (fun k => ?_) (Ev.now _)⟩
    · simp only [scan_worth.l0]; rw [if_neg (by omega)]; simp; omega
    · simp only [sigilref4_Digits.l0]; rw [if_neg (by omega)]
  | succ d ih =>
    intro n i h0 h1 hd
    have hv := value_ev t i
    have hx := hex_ev s ((from_ : Int) + i)
    rw [← hbt i h0 (by omega)] at hx
    have hr := hexv_range t i
    have e1 : ∀ k, scan_worth.l0 (k + 1) base t n (t.size : Int) i = (scan_value.f k (bt t i)).bind fun t115 => (if t115 ≥ base then (some (0, false)) else (if base = 0 then (none) else (if n > (wrap64 (Int.tdiv (wrap64 (9223372036854775807 - t115)) base)) then (some (0, false)) else (scan_worth.l0 k base t (wrap64 ((wrap64 (n * base)) + t115)) (t.size : Int) (wrap64 (i + 1)))))) := by
      intro k; simp only [scan_worth.l0]; rw [if_pos (by omega), if_pos h0, if_pos (by omega)]
    have e2 : ∀ k, sigilref4_Digits.l0 (k + 1) s base n ((from_ : Int) + i) = (sigilref4_hex.f k (bt t i)).bind fun t118 => (if t118 < 0 then (some (0, false)) else (if t118 ≥ base then (some (0, false)) else (if base = 0 then (none) else (if n > (wrap64 (Int.tdiv (wrap64 (9223372036854775807 - t118)) base)) then (some (0, false)) else (sigilref4_Digits.l0 k s base (wrap64 ((wrap64 (n * base)) + t118)) (wrap64 ((from_ : Int) + i + 1))))))) := by
      intro k; simp only [sigilref4_Digits.l0]; rw [if_pos (by omega), if_pos (by omega), hbt i h0 (by omega)]
    by_cases c1 : hexv (bt t i) < 0
    · rw [if_pos c1] at hv
      refine ⟨(0, false), Ev.step e1 (Ev.bind hv ?_), Ev.step e2 (Ev.bind hx ?_)⟩
      · simp only [if_pos (show (99 : Int) ≥ base by omega)]; exact Ev.now _
      · simp only [if_pos c1]; exact Ev.now _
    · rw [if_neg c1] at hv
      by_cases c2 : hexv (bt t i) ≥ base
      · refine ⟨(0, false), Ev.step e1 (Ev.bind hv ?_), Ev.step e2 (Ev.bind hx ?_)⟩
        · simp only [if_pos c2]; exact Ev.now _
        · simp only [if_neg c1, if_pos c2]; exact Ev.now _
      · by_cases c3 : n > (wrap64 (Int.tdiv (wrap64 (9223372036854775807 - hexv (bt t i))) base))
        · refine ⟨(0, false), Ev.step e1 (Ev.bind hv ?_), Ev.step e2 (Ev.bind hx ?_)⟩
          · simp only [if_neg c2, if_neg (show ¬ base = 0 by omega), if_pos c3]; exact Ev.now _
          · simp only [if_neg c1, if_neg c2, if_neg (show ¬ base = 0 by omega), if_pos c3]; exact Ev.now _
        · obtain ⟨r, h1', h2'⟩ := ih (wrap64 ((wrap64 (n * base)) + hexv (bt t i))) (i + 1) (by omega) (by omega) (by omega)
          refine ⟨r, Ev.step e1 (Ev.bind hv ?_), Ev.step e2 (Ev.bind hx ?_)⟩
          · simp only [if_neg c2, if_neg (show ¬ base = 0 by omega), if_neg c3]; rw [w64 (n := i + 1) (by omega) (by omega)]; exact h1'
          · simp only [if_neg c1, if_neg c2, if_neg (show ¬ base = 0 by omega), if_neg c3]; rw [show (from_ : Int) + i + 1 = (from_ : Int) + (i + 1) by omega, w64 (n := (from_ : Int) + (i + 1)) (by omega) (by omega)]; exact h2'

/-- From the digits' begin on both come to the same, also where none stand. -/
theorem tail_both (s : ByteArray) (hs : s.size ≤ 140737488355328) (base : Int) (hb : base = 8 ∨ base = 10 ∨ base = 16) (from_ : Nat) (hf : from_ ≤ s.size) (t : ByteArray) (ht : t = s.extract from_ s.size ∨ (from_ = 0 ∧ t = s)) :
    ∃ r, Ev (fun k => scan_worth.j1 k base t) r ∧ Ev (fun k => sigilref4_Digits.j1 k s base (from_ : Int)) r := by
  by_cases c : from_ < s.size
  · obtain ⟨r, h1, h2⟩ := digits_from s hs base hb from_ c t ht (s.size - from_) 0 0 (by omega) (by omega) (by omega)
    refine ⟨r, Ev.step (f := fun k => scan_worth.l0 k base t 0 (t.size : Int) 0) (fun k => by simp only [scan_worth.j1]) h1, Ev.step (f := fun k => sigilref4_Digits.l0 k s base 0 (from_ : Int)) (fun k => ?_) (by simpa using h2)⟩
    simp only [sigilref4_Digits.j1]; rw [if_neg (by omega)]
  · have hz : t.size = 0 := by
      rcases ht with h | ⟨h0, h⟩
      · rw [h, size_extract s from_ s.size (Nat.le_refl _)]; omega
      · rw [h]; omega
    refine ⟨(0, false), Ev.step (f := fun k => scan_worth.l0 k base t 0 (t.size : Int) 0) (fun k => by simp only [scan_worth.j1]) (Ev.step (f := fun _ => some (0, false)) (fun k => ?_) (Ev.now _)), Ev.step (f := fun _ => some (0, false)) (fun k => ?_) (Ev.now _)⟩
    · simp only [scan_worth.l0]; rw [hz]; simp
    · simp only [sigilref4_Digits.j1]; rw [if_pos (by omega)]

theorem worth_both (s : ByteArray) (hs : s.size ≤ 140737488355328) : ∃ r, Ev (fun k => scan_worth.f k s) r ∧ Ev (fun k => sigilref4_Digits.f k s) r := by
  by_cases c1 : (s.size : Int) > 1
  · by_cases c2 : bt s 0 = 48
    · have d0 : ∀ k, sigilref4_Digits.f k s = sigilref4_Digits.j0 k s 10 0 true := by
        intro k; simp only [sigilref4_Digits.f]; rw [if_pos c1, if_pos (by omega), c2]; rfl
      by_cases c3 : bt s 1 = 120 ∨ bt s 1 = 88
      · obtain ⟨r, h1, h2⟩ := tail_both s hs 16 (by omega) 2 (by omega) (s.extract 2 s.size) (.inl rfl)
        refine ⟨r, ?_, Ev.congr d0 (Ev.step (f := fun k => sigilref4_Digits.j1 k s 16 2) (fun k => ?_) h2)⟩
        · refine Ev.congr (f := fun k => scan_worth.j0 k s 10 s true) (fun k => ?_) (Ev.step (f := fun k => scan_worth.j1 k 16 (s.extract 2 s.size)) (fun k => ?_) h1)
          · simp only [scan_worth.f]; rw [if_pos c1, if_pos (by omega), if_pos c2, if_pos (by omega)]
            rcases c3 with c3 | c3
            · rw [if_pos c3]
            · rw [if_neg (by omega), c3]; rfl
          · simp only [scan_worth.j0]; rw [if_pos trivial, if_pos (by omega)]
        · simp only [sigilref4_Digits.j0]; rw [if_pos trivial, if_pos (by omega)]
          rcases c3 with c3 | c3
          · rw [if_pos c3]
          · rw [if_neg (by omega), if_pos c3]
      · obtain ⟨r, h1, h2⟩ := tail_both s hs 8 (by omega) 1 (by omega) (s.extract 1 s.size) (.inl rfl)
        refine ⟨r, ?_, Ev.congr d0 (Ev.step (f := fun k => sigilref4_Digits.j1 k s 8 1) (fun k => ?_) h2)⟩
        · refine Ev.congr (f := fun k => scan_worth.j0 k s 10 s false) (fun k => ?_) (Ev.step (f := fun k => scan_worth.j1 k 8 (s.extract 1 s.size)) (fun k => ?_) h1)
          · simp only [scan_worth.f]; rw [if_pos c1, if_pos (by omega), if_pos c2, if_pos (by omega), if_neg (by omega), show (bt s 1 == 88) = false from beq_eq_false_iff_ne.mpr (by omega)]
          · simp only [scan_worth.j0]; rw [if_neg Bool.false_ne_true, if_pos c1, if_pos (by omega), if_pos c2, if_pos (by omega)]
        · simp only [sigilref4_Digits.j0]; rw [if_pos trivial, if_pos (by omega), if_neg (by omega), if_neg (by omega)]
    · obtain ⟨r, h1, h2⟩ := tail_both s hs 10 (by omega) 0 (by omega) s (.inr ⟨rfl, rfl⟩)
      refine ⟨r, ?_, ?_⟩
      · refine Ev.congr (f := fun k => scan_worth.j0 k s 10 s false) (fun k => ?_) (Ev.step (f := fun k => scan_worth.j1 k 10 s) (fun k => ?_) h1)
        · simp only [scan_worth.f]; rw [if_pos c1, if_pos (by omega), if_neg c2]
        · simp only [scan_worth.j0]; rw [if_neg Bool.false_ne_true, if_pos c1, if_pos (by omega), if_neg c2]
      · refine Ev.congr (f := fun k => sigilref4_Digits.j0 k s 10 0 false) (fun k => ?_) (Ev.step (f := fun k => sigilref4_Digits.j1 k s 10 0) (fun k => ?_) h2)
        · simp only [sigilref4_Digits.f]; rw [if_pos c1, if_pos (by omega), show (bt s 0 == 48) = false from beq_eq_false_iff_ne.mpr c2]
        · simp only [sigilref4_Digits.j0]; rw [if_neg Bool.false_ne_true]
  · obtain ⟨r, h1, h2⟩ := tail_both s hs 10 (by omega) 0 (by omega) s (.inr ⟨rfl, rfl⟩)
    refine ⟨r, ?_, ?_⟩
    · refine Ev.congr (f := fun k => scan_worth.j0 k s 10 s false) (fun k => ?_) (Ev.step (f := fun k => scan_worth.j1 k 10 s) (fun k => ?_) h1)
      · simp only [scan_worth.f]; rw [if_neg c1]
      · simp only [scan_worth.j0]; rw [if_neg Bool.false_ne_true, if_neg c1]
    · refine Ev.congr (f := fun k => sigilref4_Digits.j0 k s 10 0 false) (fun k => ?_) (Ev.step (f := fun k => sigilref4_Digits.j1 k s 10 0) (fun k => ?_) h2)
      · simp only [sigilref4_Digits.f]; rw [if_neg c1]
      · simp only [sigilref4_Digits.j0]; rw [if_neg Bool.false_ne_true]

end Go.Proofs.YtabgnbbljjohdaaRDoor.Worth
