/- Plain laws of the scanner's small functions (classes of bytes, rows, numbers) and of the document's: what they come to, for every text. No condition but the texts' sizes. -/
import Derived.Test.YtabgnbbljjohdaaRDoorU
import Derived.Test.YtabgnbbljjohdaaRDoorAx
namespace Go.Proofs.YtabgnbbljjohdaaRDoor.Scan1
open Go.RowKit Go.Proofs.YtabgnbbljjohdaaRDoor.A Go.Proofs.YtabgnbbljjohdaaRDoorW.PrintWords Go.Proofs.YtabgnbbljjohdaaRDoor.U

def cls (c : Int) : Int := (scan_class.f 6 c).getD 0
def hexv (c : Int) : Int := (sigilref4_hex.f 4 c).getD 0
def word (c : Int) : Bool := cls c == 2 || cls c == 3
set_option maxRecDepth 100000 in
theorem cls_tab : ∀ n : Fin 256, scan_class.f 6 (n.val : Int) = some (cls (n.val : Int)) := by decide +kernel
set_option maxRecDepth 100000 in
theorem letter_tab : ∀ n : Fin 256, sigilref4_letter.f (n.val : Int) = some (cls (n.val : Int) == 2) := by decide +kernel
set_option maxRecDepth 100000 in
theorem digit_tab : ∀ n : Fin 256, sigilref4_digit.f (n.val : Int) 10 = some (cls (n.val : Int) == 3) := by decide +kernel
set_option maxRecDepth 100000 in
theorem hex_tab : ∀ n : Fin 256, sigilref4_hex.f 4 (n.val : Int) = some (hexv (n.val : Int)) := by decide +kernel
set_option maxRecDepth 100000 in
theorem value_tab : ∀ n : Fin 256, scan_value.f 4 (n.val : Int) = some (if hexv (n.val : Int) < 0 then 99 else hexv (n.val : Int)) := by decide +kernel
set_option maxRecDepth 100000 in
theorem hex_lt_tab : ∀ n : Fin 256, -1 ≤ hexv (n.val : Int) ∧ hexv (n.val : Int) < 16 := by decide +kernel

theorem class_ev (s : ByteArray) (i : Int) : Ev (fun k => scan_class.f k (bt s i)) (cls (bt s i)) :=
  Ev.of (scan_class.mono _) (byte_all (P := fun c => scan_class.f 6 c = some (cls c)) cls_tab (bt_range s i).1 (bt_range s i).2)
theorem letter_eq (s : ByteArray) (i : Int) : sigilref4_letter.f (bt s i) = some (cls (bt s i) == 2) :=
  byte_all (P := fun c => sigilref4_letter.f c = some (cls c == 2)) letter_tab (bt_range s i).1 (bt_range s i).2
theorem digit_eq (s : ByteArray) (i : Int) : sigilref4_digit.f (bt s i) 10 = some (cls (bt s i) == 3) :=
  byte_all (P := fun c => sigilref4_digit.f c 10 = some (cls c == 3)) digit_tab (bt_range s i).1 (bt_range s i).2
theorem hex_ev (s : ByteArray) (i : Int) : Ev (fun k => sigilref4_hex.f k (bt s i)) (hexv (bt s i)) :=
  Ev.of (sigilref4_hex.mono _) (byte_all (P := fun c => sigilref4_hex.f 4 c = some (hexv c)) hex_tab (bt_range s i).1 (bt_range s i).2)
theorem value_ev (s : ByteArray) (i : Int) : Ev (fun k => scan_value.f k (bt s i)) (if hexv (bt s i) < 0 then 99 else hexv (bt s i)) :=
  Ev.of (scan_value.mono _) (byte_all (P := fun c => scan_value.f 4 c = some (if hexv c < 0 then 99 else hexv c)) value_tab (bt_range s i).1 (bt_range s i).2)
theorem hexv_range (s : ByteArray) (i : Int) : -1 ≤ hexv (bt s i) ∧ hexv (bt s i) < 16 :=
  byte_all (P := fun c => -1 ≤ hexv c ∧ hexv c < 16) hex_lt_tab (bt_range s i).1 (bt_range s i).2

/-- A row of letters and digits from place i on. -/
theorem row_from (s : ByteArray) (hs : s.size ≤ 140737488355328) (d : Nat) : ∀ i : Int, 0 ≤ i → i ≤ s.size → (s.size : Int) - i = d →
    ∃ r, Ev (fun k => scan_row.l0 k s i) r ∧ i ≤ r ∧ r ≤ s.size ∧ (∀ j, i ≤ j → j < r → word (bt s j) = true) ∧ (r < s.size → word (bt s r) = false) := by
  induction d with
  | zero =>
    intro i h0 h1 hd
    refine ⟨i, Ev.step (f := fun _ => some i) (fun k => by simp only [scan_row.l0]; rw [if_neg (by omega)]) (Ev.now i), by omega, by omega, fun j _ _ => by omega, fun h => by omega⟩
  | succ d ih =>
    intro i h0 h1 hd
    have hlt : i < (s.size : Int) := by omega
    by_cases hw : word (bt s i) = true
    · obtain ⟨r, hr, h2, h3, h4, h5⟩ := ih (i + 1) (by omega) (by omega) (by omega)
      refine ⟨r, ?_, by omega, h3, fun j hj hj2 => ?_, h5⟩
      · refine Ev.step (f := fun k => (scan_class.f k (bt s i)).bind fun t => if t = 2 then scan_row.l0 k s (wrap64 (i + 1)) else (if t = 3 then scan_row.l0 k s (wrap64 (i + 1)) else some i)) (fun k => ?_) (Ev.bind (class_ev s i) ?_)
        · simp only [scan_row.l0]; rw [if_pos hlt, if_pos h0]
        · rw [w64 (by omega) (by omega)]
          unfold word at hw
          by_cases h2 : cls (bt s i) = 2
          · simpa only [if_pos h2] using hr
          · have h3 : cls (bt s i) = 3 := by simpa [h2] using hw
            simpa only [if_neg h2, if_pos h3] using hr
      · by_cases e : j = i
        · rw [e]; exact hw
        · exact h4 j (by omega) hj2
    · have hw' : word (bt s i) = false := by simpa using hw
      refine ⟨i, ?_, by omega, by omega, fun j _ _ => by omega, fun _ => hw'⟩
      refine Ev.step (f := fun k => (scan_class.f k (bt s i)).bind fun t => if t = 2 then scan_row.l0 k s (wrap64 (i + 1)) else (if t = 3 then scan_row.l0 k s (wrap64 (i + 1)) else some i)) (fun k => ?_) (Ev.bind (class_ev s i) ?_)
      · simp only [scan_row.l0]; rw [if_pos hlt, if_pos h0]
      · unfold word at hw'
        have h2 : ¬ cls (bt s i) = 2 := by intro h; simp [h] at hw'
        have h3 : ¬ cls (bt s i) = 3 := by intro h; simp [h] at hw'
        simp only [if_neg h2, if_neg h3]
        exact Ev.now i
theorem row_ev (s : ByteArray) (hs : s.size ≤ 140737488355328) :
    ∃ r, Ev (fun k => scan_row.f k s) r ∧ 0 ≤ r ∧ r ≤ s.size ∧ (∀ j, 0 ≤ j → j < r → word (bt s j) = true) ∧ (r < s.size → word (bt s r) = false) :=
  row_from s hs s.size 0 (by omega) (by omega) (by omega)

end Go.Proofs.YtabgnbbljjohdaaRDoor.Scan1
