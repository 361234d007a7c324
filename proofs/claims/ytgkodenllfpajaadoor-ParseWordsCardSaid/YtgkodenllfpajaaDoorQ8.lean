/- Lemmas and walks for the claim; no condition beyond what each states. -/
import Derived.Test.YtgkodenllfpajaaDoorQ4
section
namespace Go.Proofs.YtgkodenllfpajaaDoor.U
open Go.RowKit Go.Proofs.YtgkodenllfpajaaDoorW.PrintWords
theorem w64 {n : Int} (h : -9223372036854775808 ≤ n) (h2 : n ≤ 9223372036854775807) : wrap64 n = n := by unfold wrap64; omega
theorem byte_all {P : Int → Prop} (h : ∀ n : Fin 256, P (n.val : Int)) {c : Int} (h0 : 0 ≤ c) (h1 : c ≤ 255) : P c := by
  have := h ⟨c.toNat, by omega⟩
  rwa [show ((c.toNat : Nat) : Int) = c by omega] at this
theorem Ev.some' {α : Type} {g : Nat → Option α} (r : α) (h : ∀ k, g k = some r) : Ev g r := ⟨0, fun k _ => h k⟩
theorem Ev.pair {α β : Type} {g : Nat → Option α} {f : Nat → Option β} {a : α} {b : β} (h : Ev g a) (k : Ev f b) : Ev (fun n => (g n).bind fun x => (f n).map fun y => (x, y)) (a, b) := by
  obtain ⟨K, h⟩ := h
  obtain ⟨K', k⟩ := k
  exact ⟨max K K', fun n hn => by simp [h n (by omega), k n (by omega)]⟩
end Go.Proofs.YtgkodenllfpajaaDoor.U
end
section
namespace Go.Proofs.YtgkodenllfpajaaDoor.Scan1
open Go.RowKit Go.Proofs.YtgkodenllfpajaaDoor.A Go.Proofs.YtgkodenllfpajaaDoorW.PrintWords Go.Proofs.YtgkodenllfpajaaDoor.U
def cls (c : Int) : Int := (scan_class.f 6 c).getD 0
def word (c : Int) : Bool := cls c == 2 || cls c == 3
set_option maxRecDepth 100000 in
theorem cls_tab : ∀ n : Fin 256, scan_class.f 6 (n.val : Int) = some (cls (n.val : Int)) := by decide +kernel
set_option maxRecDepth 100000 in
theorem letter_tab : ∀ n : Fin 256, sigilref4_letter.f (n.val : Int) = some (cls (n.val : Int) == 2) := by decide +kernel
set_option maxRecDepth 100000 in
theorem digit_tab : ∀ n : Fin 256, sigilref4_digit.f (n.val : Int) 10 = some (cls (n.val : Int) == 3) := by decide +kernel
theorem class_ev (s : ByteArray) (i : Int) : Ev (fun k => scan_class.f k (bt s i)) (cls (bt s i)) :=
  Ev.of (scan_class.mono _) (byte_all (P := fun c => scan_class.f 6 c = some (cls c)) cls_tab (bt_range s i).1 (bt_range s i).2)
theorem letter_eq (s : ByteArray) (i : Int) : sigilref4_letter.f (bt s i) = some (cls (bt s i) == 2) :=
  byte_all (P := fun c => sigilref4_letter.f c = some (cls c == 2)) letter_tab (bt_range s i).1 (bt_range s i).2
theorem digit_eq (s : ByteArray) (i : Int) : sigilref4_digit.f (bt s i) 10 = some (cls (bt s i) == 3) :=
  byte_all (P := fun c => sigilref4_digit.f c 10 = some (cls c == 3)) digit_tab (bt_range s i).1 (bt_range s i).2
theorem row_from (s : ByteArray) (hs : s.size ≤ 140737488355328) (d : Nat) : ∀ i : Int, 0 ≤ i → i ≤ s.size → (s.size : Int) - i = d →
    ∃ r, Ev (fun k => scan_row.l0 k s i) r ∧ i ≤ r ∧ r ≤ s.size ∧ (∀ j, i ≤ j → j < r → word (bt s j) = true) ∧ (r < s.size → word (bt s r) = false) := by
  induction d with
  | zero =>
    intro i h0 h1 hd
    refine ⟨i, Ev.step (f := fun _ => some i) (fun k => by simp only [scan_row.l0]; rw [if_neg (by omega)]) (Ev.now i), by omega, by omega, fun j _ _ => by omega, fun h => by omega⟩
  | succ d ih =>
    intro i h0 h1 hd
    have hlt : i < (s.size : Int) := by omega
    by_cases hw : word (bt s i) = true
    · obtain ⟨r, hr, h2, h3, h4, h5⟩ := ih (i + 1) (by omega) (by omega) (by omega)
      refine ⟨r, ?_, by omega, h3, fun j hj hj2 => ?_, h5⟩
      · refine Ev.step (f := fun k => (scan_class.f k (bt s i)).bind fun t => if t = 2 then scan_row.l0 k s (wrap64 (i + 1)) else (if t = 3 then scan_row.l0 k s (wrap64 (i + 1)) else some i)) (fun k => ?_) (Ev.bind (class_ev s i) ?_)
        · simp only [scan_row.l0]; rw [if_pos hlt, if_pos h0]
        · rw [w64 (by omega) (by omega)]
          unfold word at hw
          by_cases h2 : cls (bt s i) = 2
          · simpa only [if_pos h2] using hr
          · have h3 : cls (bt s i) = 3 := by simpa [h2] using hw
            simpa only [if_neg h2, if_pos h3] using hr
      · by_cases e : j = i
        · rw [e]; exact hw
        · exact h4 j (by omega) hj2
    · have hw' : word (bt s i) = false := by simpa using hw
      refine ⟨i, ?_, by omega, by omega, fun j _ _ => by omega, fun _ => hw'⟩
      refine Ev.step (f := fun k => (scan_class.f k (bt s i)).bind fun t => if t = 2 then scan_row.l0 k s (wrap64 (i + 1)) else (if t = 3 then scan_row.l0 k s (wrap64 (i + 1)) else some i)) (fun k => ?_) (Ev.bind (class_ev s i) ?_)
      · simp only [scan_row.l0]; rw [if_pos hlt, if_pos h0]
      · unfold word at hw'
        have h2 : ¬ cls (bt s i) = 2 := by intro h; simp [h] at hw'
        have h3 : ¬ cls (bt s i) = 3 := by intro h; simp [h] at hw'
        simp only [if_neg h2, if_neg h3]
        exact Ev.now i
theorem row_ev (s : ByteArray) (hs : s.size ≤ 140737488355328) :
    ∃ r, Ev (fun k => scan_row.f k s) r ∧ 0 ≤ r ∧ r ≤ s.size ∧ (∀ j, 0 ≤ j → j < r → word (bt s j) = true) ∧ (r < s.size → word (bt s r) = false) :=
  row_from s hs s.size 0 (by omega) (by omega) (by omega)
theorem refident_from (s : ByteArray) (hs : s.size ≤ 140737488355328) (d : Nat) : ∀ (i r : Int), 0 ≤ i → i ≤ s.size → (s.size : Int) - i = d → i ≤ r → r ≤ s.size →
    (∀ j, i ≤ j → j < r → word (bt s j) = true) → (r < s.size → word (bt s r) = false) → Ev (fun k => sigilref4_Ident.l0 k s i) (r == (s.size : Int)) := by
  induction d with
  | zero =>
    intro i r h0 h1 hd hir hrs hw hn
    refine Ev.step (f := fun _ => some true) (fun k => by simp only [sigilref4_Ident.l0]; rw [if_neg (by omega)]) ?_
    rw [show (r == (s.size : Int)) = true from beq_iff_eq.mpr (by omega)]
    exact Ev.now true
  | succ d ih =>
    intro i r h0 h1 hd hir hrs hw hn
    have hlt : i < (s.size : Int) := by omega
    refine Ev.step (f := fun k => (some (cls (bt s i) == 2)).bind fun t => if t = true then sigilref4_Ident.l0 k s (wrap64 (i + 1)) else ((some (cls (bt s i) == 3)).bind fun t => if t = true then sigilref4_Ident.l0 k s (wrap64 (i + 1)) else some false)) (fun k => ?_) ?_
    · simp only [sigilref4_Ident.l0]; rw [if_pos hlt, if_pos h0, letter_eq, digit_eq]
    · rw [w64 (by omega) (by omega)]
      simp only [Option.bind_some]
      by_cases e : i = r
      · have hw' := hn (by omega)
        rw [← e] at hw'
        unfold word at hw'
        have h2 : (cls (bt s i) == 2) = false := by cases h : (cls (bt s i) == 2) <;> simp [h] at hw' ⊢
        have h3 : (cls (bt s i) == 3) = false := by cases h : (cls (bt s i) == 3) <;> simp [h] at hw' ⊢
        rw [h2, h3, show (r == (s.size : Int)) = false from beq_eq_false_iff_ne.mpr (by omega)]
        exact Ev.some' _ (fun k => rfl)
      · have hi := ih (i + 1) r (by omega) (by omega) (by omega) (by omega) hrs (fun j h1 h2 => hw j (by omega) h2) hn
        have hw' := hw i (by omega) (by omega)
        unfold word at hw'
        by_cases h2 : (cls (bt s i) == 2) = true
        · rw [h2]; exact hi
        · have h2' : (cls (bt s i) == 2) = false := by simpa using h2
          have h3 : (cls (bt s i) == 3) = true := by simpa [h2'] using hw'
          rw [h2', h3]; exact hi
theorem ident_both (s : ByteArray) (hs : s.size ≤ 140737488355328) : ∃ b, Ev (fun k => scan_Ident.f k s) b ∧ Ev (fun k => sigilref4_Ident.f k s) b := by
  by_cases c1 : (s.size : Int) ≥ 1
  · by_cases c2 : (s.size : Int) ≤ 255
    · by_cases c3 : cls (bt s 0) = 2
      · obtain ⟨r, hr, h0, h1, h2, h3⟩ := row_ev s hs
        refine ⟨r == (s.size : Int), ?_, ?_⟩
        · refine Ev.congr (f := fun k => (scan_class.f k (bt s 0)).bind fun t => if t = 2 then (scan_row.f k s).bind fun t => some (t == (s.size : Int)) else some false) (fun k => ?_) (Ev.bind (class_ev s 0) ?_)
          · simp only [scan_Ident.f]; rw [if_pos c1, if_pos c2, if_pos (by omega)]
          · simp only [if_pos c3]
            exact Ev.bind hr (Ev.now _)
        · refine Ev.congr (f := fun k => sigilref4_Ident.j0 k s false) (fun k => ?_) ?_
          · simp only [sigilref4_Ident.f]; rw [if_neg (by omega), if_neg (by omega), if_pos (by omega), letter_eq, Option.bind_some, show (cls (bt s 0) == 2) = true from beq_iff_eq.mpr c3]; rfl
          · refine Ev.step (f := fun k => sigilref4_Ident.l0 k s 0) (fun k => by simp [sigilref4_Ident.j0]) ?_
            exact refident_from s hs s.size 0 r (by omega) (by omega) (by omega) h0 h1 h2 h3
      · refine ⟨false, ?_, ?_⟩
        · refine Ev.congr (f := fun k => (scan_class.f k (bt s 0)).bind fun t => if t = 2 then (scan_row.f k s).bind fun t => some (t == (s.size : Int)) else some false) (fun k => ?_) (Ev.bind (class_ev s 0) ?_)
          · simp only [scan_Ident.f]; rw [if_pos c1, if_pos c2, if_pos (by omega)]
          · simp only [if_neg c3]
            exact Ev.now _
        · refine Ev.congr (f := fun k => sigilref4_Ident.j0 k s true) (fun k => ?_) ?_
          · simp only [sigilref4_Ident.f]; rw [if_neg (by omega), if_neg (by omega), if_pos (by omega), letter_eq, Option.bind_some, show (cls (bt s 0) == 2) = false from beq_eq_false_iff_ne.mpr c3]; rfl
          · exact Ev.step (f := fun _ => some false) (fun k => by simp [sigilref4_Ident.j0]) (Ev.now _)
    · refine ⟨false, Ev.some' _ (fun k => by simp only [scan_Ident.f]; rw [if_pos c1, if_neg c2]), ?_⟩
      refine Ev.congr (f := fun k => sigilref4_Ident.j0 k s true) (fun k => ?_) (Ev.step (f := fun _ => some false) (fun k => by simp [sigilref4_Ident.j0]) (Ev.now _))
      simp only [sigilref4_Ident.f]; rw [if_neg (by omega), if_pos (by omega)]
  · refine ⟨false, Ev.some' _ (fun k => by simp only [scan_Ident.f]; rw [if_neg c1]), ?_⟩
    refine Ev.congr (f := fun k => sigilref4_Ident.j0 k s true) (fun k => ?_) (Ev.step (f := fun _ => some false) (fun k => by simp [sigilref4_Ident.j0]) (Ev.now _))
    simp only [sigilref4_Ident.f]; rw [if_pos (by omega)]
end Go.Proofs.YtgkodenllfpajaaDoor.Scan1
end
