/- For every list of texts of at most 2^47 - 4096 bytes each: scan.Ident answers what the document's Ident answers. No other condition. -/
import Derived.Test.YtabgnbbljjohdaaRScan1
namespace Go.Proofs.YtabgnbbljjohdaaR.Pure
open Go.RowKit Go.Proofs.YtabgnbbljjohdaaR.A Go.Proofs.YtabgnbbljjohdaaRW.PrintWords Go.Proofs.YtabgnbbljjohdaaR.U Go.Proofs.YtabgnbbljjohdaaR.Scan1

theorem refident_from (s : ByteArray) (hs : s.size ≤ 140737488355328) (d : Nat) : ∀ (i r : Int), 0 ≤ i → i ≤ s.size → (s.size : Int) - i = d → i ≤ r → r ≤ s.size →
    (∀ j, i ≤ j → j < r → word (bt s j) = true) → (r < s.size → word (bt s r) = false) → Ev (fun k => sigilref4_Ident.l0 k s i) (r == (s.size : Int)) := by
  induction d with
  | zero =>
    intro i r h0 h1 hd hir hrs hw hn
    refine Ev.step (f := fun _ => some true) (fun k => by simp only [sigilref4_Ident.l0]; rw [if_neg (by omega)]) ?_
    rw [show (r == (s.size : Int)) = true from beq_iff_eq.mpr (by omega)]
    exact Ev.now true
  | succ d ih =>
    intro i r h0 h1 hd hir hrs hw hn
    have hlt : i < (s.size : Int) := by omega
    refine Ev.step (f := fun k => (some (cls (bt s i) == 2)).bind fun t => if t = true then sigilref4_Ident.l0 k s (wrap64 (i + 1)) else ((some (cls (bt s i) == 3)).bind fun t => if t = true then sigilref4_Ident.l0 k s (wrap64 (i + 1)) else some false)) (fun k => ?_) ?_
    · simp only [sigilref4_Ident.l0]; rw [if_pos hlt, if_pos h0, letter_eq, digit_eq]
    · rw [w64 (by omega) (by omega)]
      simp only [Option.bind_some]
      by_cases e : i = r
      · have hw' := hn (by omega)
        rw [← e] at hw'
        unfold word at hw'
        have h2 : (cls (bt s i) == 2) = false := by cases h : (cls (bt s i) == 2) <;> simp [h] at hw' ⊢
        have h3 : (cls (bt s i) == 3) = false := by cases h : (cls (bt s i) == 3) <;> simp [h] at hw' ⊢
        rw [h2, h3, show (r == (s.size : Int)) = false from beq_eq_false_iff_ne.mpr (by omega)]
        exact Ev.some' _ (fun k => rfl)
      · have hi := ih (i + 1) r (by omega) (by omega) (by omega) (by omega) hrs (fun j h1 h2 => hw j (by omega) h2) hn
        have hw' := hw i (by omega) (by omega)
        unfold word at hw'
        by_cases h2 : (cls (bt s i) == 2) = true
        · rw [h2]; exact hi
        · have h2' : (cls (bt s i) == 2) = false := by simpa using h2
          have h3 : (cls (bt s i) == 3) = true := by simpa [h2'] using hw'
          rw [h2', h3]; exact hi

/-- Both Idents answer alike. -/
theorem ident_both (s : ByteArray) (hs : s.size ≤ 140737488355328) : ∃ b, Ev (fun k => scan_Ident.f k s) b ∧ Ev (fun k => sigilref4_Ident.f k s) b := by
  by_cases c1 : (s.size : Int) ≥ 1
  · by_cases c2 : (s.size : Int) ≤ 255
    · by_cases c3 : cls (bt s 0) = 2
      · obtain ⟨r, hr, h0, h1, h2, h3⟩ := row_ev s hs
        refine ⟨r == (s.size : Int), ?_, ?_⟩
        · refine Ev.congr (f := fun k => (scan_class.f k (bt s 0)).bind fun t => if t = 2 then (scan_row.f k s).bind fun t => some (t == (s.size : Int)) else some false) (fun k => ?_) (Ev.bind (class_ev s 0) ?_)
          · simp only [scan_Ident.f]; rw [if_pos c1, if_pos c2, if_pos (by omega)]
          · simp only [if_pos c3]
            exact Ev.bind hr (Ev.now _)
        · refine Ev.congr (f := fun k => sigilref4_Ident.j0 k s false) (fun k => ?_) ?_
          · simp only [sigilref4_Ident.f]; rw [if_neg (by omega), if_neg (by omega), if_pos (by omega), letter_eq, Option.bind_some, show (cls (bt s 0) == 2) = true from beq_iff_eq.mpr c3]; rfl
          · refine Ev.step (f := fun k => sigilref4_Ident.l0 k s 0) (fun k => by simp [sigilref4_Ident.j0]) ?_
            exact refident_from s hs s.size 0 r (by omega) (by omega) (by omega) h0 h1 h2 h3
      · refine ⟨false, ?_, ?_⟩
        · refine Ev.congr (f := fun k => (scan_class.f k (bt s 0)).bind fun t => if t = 2 then (scan_row.f k s).bind fun t => some (t == (s.size : Int)) else some false) (fun k => ?_) (Ev.bind (class_ev s 0) ?_)
          · simp only [scan_Ident.f]; rw [if_pos c1, if_pos c2, if_pos (by omega)]
          · simp only [if_neg c3]
            exact Ev.now _
        · refine Ev.congr (f := fun k => sigilref4_Ident.j0 k s true) (fun k => ?_) ?_
          · simp only [sigilref4_Ident.f]; rw [if_neg (by omega), if_neg (by omega), if_pos (by omega), letter_eq, Option.bind_some, show (cls (bt s 0) == 2) = false from beq_eq_false_iff_ne.mpr c3]; rfl
          · exact Ev.step (f := fun _ => some false) (fun k => by simp [sigilref4_Ident.j0]) (Ev.now _)
    · refine ⟨false, Ev.some' _ (fun k => by simp only [scan_Ident.f]; rw [if_pos c1, if_neg c2]), ?_⟩
      refine Ev.congr (f := fun k => sigilref4_Ident.j0 k s true) (fun k => ?_) (Ev.step (f := fun _ => some false) (fun k => by simp [sigilref4_Ident.j0]) (Ev.now _))
      simp only [sigilref4_Ident.f]; rw [if_neg (by omega), if_pos (by omega)]
  · refine ⟨false, Ev.some' _ (fun k => by simp only [scan_Ident.f]; rw [if_neg c1]), ?_⟩
    refine Ev.congr (f := fun k => sigilref4_Ident.j0 k s true) (fun k => ?_) (Ev.step (f := fun _ => some false) (fun k => by simp [sigilref4_Ident.j0]) (Ev.now _))
    simp only [sigilref4_Ident.f]; rw [if_pos (by omega)]

theorem rd_mem (l : List ByteArray) (i : Int) (h0 : 0 ≤ i) (h1 : i < (l.length : Int)) : rdOf ByteArray.empty l i ∈ l := by
  unfold rdOf
  rw [List.getD_eq_getElem?_getD, List.getElem?_eq_getElem (by omega)]
  exact List.getElem_mem _
theorem idents_from (l : List ByteArray) (hl : l.length ≤ 140737488355328) (hs : ∀ s ∈ l, s.size ≤ 140737488355328) (d : Nat) : ∀ i : Int, 0 ≤ i → i ≤ l.length → (l.length : Int) - i = d →
    Ev (fun k => sigillaw4_ScanIdents.l0 k l i) true := by
  induction d with
  | zero =>
    intro i h0 h1 hd
    exact Ev.step (f := fun _ => some true) (fun k => by simp only [sigillaw4_ScanIdents.l0]; rw [if_neg (by omega)]) (Ev.now _)
  | succ d ih =>
    intro i h0 h1 hd
    obtain ⟨b, hb1, hb2⟩ := ident_both (rdOf ByteArray.empty l i) (hs _ (rd_mem l i h0 (by omega)))
    refine Ev.step (f := fun k => (scan_Ident.f k (rdOf ByteArray.empty l i)).bind fun t => (sigilref4_Ident.f k (rdOf ByteArray.empty l i)).bind fun u => if (t != u) = true then some false else sigillaw4_ScanIdents.l0 k l (wrap64 (i + 1))) (fun k => ?_) (Ev.bind hb1 (Ev.bind hb2 ?_))
    · simp only [sigillaw4_ScanIdents.l0]; rw [if_pos (by omega), if_pos h0]
    · rw [w64 (by omega) (by omega)]
      have e : (b != b) = false := by cases b <;> rfl
      simp only [e]
      exact ih (i + 1) (by omega) (by omega) (by omega)
set_option maxRecDepth 100000 in
theorem ident1 : scan_Ident.f 12 (⟨#[97, 95, 49]⟩ : ByteArray) = some true := by decide +kernel
set_option maxRecDepth 100000 in
theorem ident2 : scan_Ident.f 12 (⟨#[49, 97]⟩ : ByteArray) = some false := by decide +kernel
theorem ScanIdents (l : List ByteArray) (hl : l.length ≤ 140737488355328) (hs : ∀ s ∈ l, s.size ≤ 140737488355328) : ∃ k, sigillaw4_ScanIdents.f k l = some true := by
  refine Ev.rounds (g := fun k => sigillaw4_ScanIdents.f k l) ?_
  refine Ev.congr (f := fun k => (scan_Ident.f k (⟨#[97, 95, 49]⟩ : ByteArray)).bind fun t => if t = true then ((scan_Ident.f k (⟨#[49, 97]⟩ : ByteArray)).bind fun t => sigillaw4_ScanIdents.j0 k l t) else sigillaw4_ScanIdents.j0 k l true) (fun k => rfl) ?_
  refine Ev.bind (Ev.of (scan_Ident.mono _) ident1) ?_
  refine Ev.bind (Ev.of (scan_Ident.mono _) ident2) ?_
  refine Ev.step (f := fun k => sigillaw4_ScanIdents.l0 k l 0) (fun k => by simp [sigillaw4_ScanIdents.j0]) ?_
  exact idents_from l hl hs l.length 0 (by omega) (by omega) (by omega)
end Go.Proofs.YtabgnbbljjohdaaR.Pure
