/- Plain laws of strings' tokens: scan's escape, unquoted and Unquote against the document's, for every text of at most 2^47 bytes. No other condition. -/
import Derived.Test.YtabgnbbljjohdaaRDoorUtf8
import Derived.Test.YtabgnbbljjohdaaRDoorScan1
import Derived.Lib.Strings
namespace Go.Proofs.YtabgnbbljjohdaaRDoor.Unq
open Go.RowKit Go.Proofs.YtabgnbbljjohdaaRDoor.A Go.Proofs.YtabgnbbljjohdaaRDoorW.PrintWords Go.Proofs.YtabgnbbljjohdaaRDoor.U Go.Proofs.YtabgnbbljjohdaaRDoor.Scan1 Go.Proofs.YtabgnbbljjohdaaRDoor.Utf8

theorem toList_nil (s : ByteArray) : (s.toList = ([] : List UInt8)) ↔ s.size = 0 := by
  rw [ByteArray.toList_eq]
  constructor
  · intro h
    have := congrArg List.length h
    rw [Array.length_toList] at this
    exact this
  · intro h
    apply List.eq_nil_of_length_eq_zero
    rw [Array.length_toList]
    exact h

def simple (c : Int) : Int × Bool := (scan_simple.f c).getD (0, false)
set_option maxRecDepth 100000 in
theorem simple_tab : ∀ n : Fin 256, scan_simple.f (n.val : Int) = some (simple (n.val : Int)) := by decide +kernel
theorem simple_eq (s : ByteArray) (i : Int) : scan_simple.f (bt s i) = some (simple (bt s i)) :=
  byte_all (P := fun c => scan_simple.f c = some (simple c)) simple_tab (bt_range s i).1 (bt_range s i).2
set_option maxRecDepth 100000 in
theorem digit8_tab : ∀ n : Fin 256, sigilref4_digit.f (n.val : Int) 8 = some (decide (0 ≤ hexv (n.val : Int) ∧ hexv (n.val : Int) < 8)) ∧ (0 ≤ hexv (n.val : Int) → hexv (n.val : Int) < 8 → ((n.val : Int) - 48) % 256 = hexv (n.val : Int)) := by decide +kernel
theorem digit8_eq (s : ByteArray) (i : Int) : sigilref4_digit.f (bt s i) 8 = some (decide (0 ≤ hexv (bt s i) ∧ hexv (bt s i) < 8)) ∧ (0 ≤ hexv (bt s i) → hexv (bt s i) < 8 → (bt s i - 48) % 256 = hexv (bt s i)) :=
  byte_all (P := fun c => sigilref4_digit.f c 8 = some (decide (0 ≤ hexv c ∧ hexv c < 8)) ∧ (0 ≤ hexv c → hexv c < 8 → (c - 48) % 256 = hexv c)) digit8_tab (bt_range s i).1 (bt_range s i).2

def names : ByteArray := ⟨#[97, 98, 102, 110, 114, 116, 118, 92, 39, 34]⟩
def worths : List Int := [7, 8, 12, 10, 13, 9, 11, 92, 39, 34]
/-- The document's list of names, walked through for a byte. -/
theorem names_walk (s : ByteArray) (i c : Int) (h : ∃ n : Fin 256, c = (n.val : Int)) :
    (∃ b, simple c = (b, true) ∧ 0 ≤ b ∧ b < 256 ∧ Ev (fun k => sigilref4_escape.l0 k s i c names worths 0) (b, 2)) ∨
    (simple c = (0, false) ∧ ∀ r, Ev (fun k => sigilref4_escape.j1 k s i (c == 120 || c == 88)) r → Ev (fun k => sigilref4_escape.l0 k s i c names worths 0) r) := by
  have st : ∀ m : Nat, m < 10 → bt names (m : Int) ≠ c → ∀ r, Ev (fun k => sigilref4_escape.l0 k s i c names worths ((m + 1 : Nat) : Int)) r → Ev (fun k => sigilref4_escape.l0 k s i c names worths (m : Int)) r := by
    intro m hm hc r hr
    refine Ev.step (f := fun k => sigilref4_escape.l0 k s i c names worths ((m + 1 : Nat) : Int)) (fun k => ?_) hr
    simp only [sigilref4_escape.l0]
    rw [if_pos (by show (m : Int) < (10 : Int); omega), if_pos (by omega), if_neg hc, w64 (by omega) (by omega)]
    rfl
  have ht : ∀ m : Nat, m < 10 → bt names (m : Int) = c → Ev (fun k => sigilref4_escape.l0 k s i c names worths (m : Int)) (rd worths (m : Int), 2) := by
    intro m hm hc
    refine Ev.step (f := fun _ => some (rd worths (m : Int), 2)) (fun k => ?_) (Ev.now _)
    simp only [sigilref4_escape.l0]
    rw [if_pos (by show (m : Int) < (10 : Int); omega), if_pos (by omega), if_pos hc, if_pos (by show (m : Int) < (10 : Int); omega)]
  have en : ∀ r, Ev (fun k => sigilref4_escape.j1 k s i (c == 120 || c == 88)) r → Ev (fun k => sigilref4_escape.l0 k s i c names worths ((10 : Nat) : Int)) r := by
    intro r hr
    refine Ev.step (f := fun k => sigilref4_escape.j1 k s i (c == 120 || c == 88)) (fun k => ?_) hr
    simp only [sigilref4_escape.l0]
    rw [if_neg (by show ¬ ((10 : Nat) : Int) < (10 : Int); omega)]
    by_cases e : c = 120
    · rw [if_pos e, e]; rfl
    · rw [if_neg e, show (c == 120) = false from beq_eq_false_iff_ne.mpr e]; rfl
  have n0 : bt names ((0 : Nat) : Int) = 97 := rfl
  have n1 : bt names ((1 : Nat) : Int) = 98 := rfl
  have n2 : bt names ((2 : Nat) : Int) = 102 := rfl
  have n3 : bt names ((3 : Nat) : Int) = 110 := rfl
  have n4 : bt names ((4 : Nat) : Int) = 114 := rfl
  have n5 : bt names ((5 : Nat) : Int) = 116 := rfl
  have n6 : bt names ((6 : Nat) : Int) = 118 := rfl
  have n7 : bt names ((7 : Nat) : Int) = 92 := rfl
  have n8 : bt names ((8 : Nat) : Int) = 39 := rfl
  have n9 : bt names ((9 : Nat) : Int) = 34 := rfl
  by_cases c0 : c = 97
  · subst c0; exact .inl ⟨7, rfl, by omega, by omega, ht 0 (by omega) n0⟩
  have q0 := st 0 (by omega) (by omega)
  by_cases c1 : c = 98
  · subst c1; exact .inl ⟨8, rfl, by omega, by omega, q0 _ (ht 1 (by omega) n1)⟩
  have q1 := st 1 (by omega) (by omega)
  by_cases c2 : c = 102
  · subst c2; exact .inl ⟨12, rfl, by omega, by omega, q0 _ (q1 _ (ht 2 (by omega) n2))⟩
  have q2 := st 2 (by omega) (by omega)
  by_cases c3 : c = 110
  · subst c3; exact .inl ⟨10, rfl, by omega, by omega, q0 _ (q1 _ (q2 _ (ht 3 (by omega) n3)))⟩
  have q3 := st 3 (by omega) (by omega)
  by_cases c4 : c = 114
  · subst c4; exact .inl ⟨13, rfl, by omega, by omega, q0 _ (q1 _ (q2 _ (q3 _ (ht 4 (by omega) n4))))⟩
  have q4 := st 4 (by omega) (by omega)
  by_cases c5 : c = 116
  · subst c5; exact .inl ⟨9, rfl, by omega, by omega, q0 _ (q1 _ (q2 _ (q3 _ (q4 _ (ht 5 (by omega) n5)))))⟩
  have q5 := st 5 (by omega) (by omega)
  by_cases c6 : c = 118
  · subst c6; exact .inl ⟨11, rfl, by omega, by omega, q0 _ (q1 _ (q2 _ (q3 _ (q4 _ (q5 _ (ht 6 (by omega) n6))))))⟩
  have q6 := st 6 (by omega) (by omega)
  by_cases c7 : c = 92
  · subst c7; exact .inl ⟨92, rfl, by omega, by omega, q0 _ (q1 _ (q2 _ (q3 _ (q4 _ (q5 _ (q6 _ (ht 7 (by omega) n7)))))))⟩
  have q7 := st 7 (by omega) (by omega)
  by_cases c8 : c = 39
  · subst c8; exact .inl ⟨39, rfl, by omega, by omega, q0 _ (q1 _ (q2 _ (q3 _ (q4 _ (q5 _ (q6 _ (q7 _ (ht 8 (by omega) n8))))))))⟩
  have q8 := st 8 (by omega) (by omega)
  by_cases c9 : c = 34
  · subst c9; exact .inl ⟨34, rfl, by omega, by omega, q0 _ (q1 _ (q2 _ (q3 _ (q4 _ (q5 _ (q6 _ (q7 _ (q8 _ (ht 9 (by omega) n9)))))))))⟩
  have q9 := st 9 (by omega) (by omega)
  refine .inr ⟨?_, fun r hr => q0 _ (q1 _ (q2 _ (q3 _ (q4 _ (q5 _ (q6 _ (q7 _ (q8 _ (q9 _ (en r hr))))))))))⟩
  unfold simple scan_simple.f
  rw [if_neg c0, if_neg c1, if_neg c2, if_neg c3, if_neg c4, if_neg c5, if_neg c6, if_neg c7, if_neg c8, if_neg c9]
  rfl

/-- Both loops stop: what they answer. -/
theorem hex_stop (s t : ByteArray) (i : Nat) (n : Int) (j : Nat) (hj : 1 ≤ j) (hj3 : j ≤ 3) (hn : 0 ≤ n) (hn2 : n ≤ 255) (hjs : (i : Int) + 1 + j ≤ s.size ∨ j = 1)
    (e1 : Ev (fun k => scan_escape.l0 k t 16 (j : Int) 2 n 1) (if (j : Int) = 1 then (0, 0) else if n > 255 then (0, 0) else (n % 256, (j : Int))))
    (e2 : Ev (fun k => sigilref4_escape.l1 k s (i : Int) n ((j : Int) + 1)) (if (j : Int) + 1 = 2 then (0, 0) else (n % 256, (j : Int) + 1))) :
    ∃ b m, 0 ≤ m ∧ m ≤ 3 ∧ (m = 0 ∨ (i : Int) + 1 + m ≤ s.size) ∧ 0 ≤ b ∧ b < 256 ∧ Ev (fun k => scan_escape.l0 k t 16 (j : Int) 2 n 1) (b, m) ∧ Ev (fun k => sigilref4_escape.l1 k s (i : Int) n ((j : Int) + 1)) (b, if m = 0 then 0 else m + 1) := by
  by_cases c : j = 1
  · rw [if_pos (by omega)] at e1 e2
    exact ⟨0, 0, by omega, by omega, by omega, by omega, by omega, e1, e2⟩
  · rw [if_neg (by omega), if_neg (by omega)] at e1
    rw [if_neg (by omega)] at e2
    refine ⟨n % 256, (j : Int), by omega, by omega, by omega, by omega, by omega, e1, ?_⟩
    rw [if_neg (by omega)]
    exact e2
/-- Hexadecimal digits. -/
theorem hex_digits (s : ByteArray) (hs : s.size ≤ 140737488355328) (i : Nat) (_hi : i + 1 ≤ s.size) (t : ByteArray) (hsz : t.size = s.size - (i + 1)) (hbt : ∀ j : Int, 0 ≤ j → j < (s.size : Int) - ((i : Int) + 1) → bt t j = bt s ((i : Int) + 1 + j)) (d : Nat) : ∀ (n : Int) (j : Nat), 1 ≤ j → j ≤ 3 → 3 - j = d → 0 ≤ n → (j = 1 → n = 0) → (j = 2 → n ≤ 15) → (j = 3 → n ≤ 255) → ((i : Int) + 1 + j ≤ s.size ∨ j = 1) →
    ∃ b m, 0 ≤ m ∧ m ≤ 3 ∧ (m = 0 ∨ (i : Int) + 1 + m ≤ s.size) ∧ 0 ≤ b ∧ b < 256 ∧ Ev (fun k => scan_escape.l0 k t 16 (j : Int) 2 n 1) (b, m) ∧ Ev (fun k => sigilref4_escape.l1 k s (i : Int) n ((j : Int) + 1)) (b, if m = 0 then 0 else m + 1) := by
  have fin1 : ∀ (n : Int) (j : Nat), Ev (fun _ => (if (j : Int) = 1 then some ((0 : Int), (0 : Int)) else if n > 255 then some (0, 0) else some (n % 256, (j : Int)))) (if (j : Int) = 1 then (0, 0) else if n > 255 then (0, 0) else (n % 256, (j : Int))) := by
    intro n j; refine Ev.some' _ (fun _ => ?_); split
    · rfl
    · split <;> rfl
  have fin2 : ∀ (n : Int) (j : Nat), Ev (fun _ => (if (j : Int) + 1 = 2 then some ((0 : Int), (0 : Int)) else some (n % 256, (j : Int) + 1))) (if (j : Int) + 1 = 2 then (0, 0) else (n % 256, (j : Int) + 1)) := by
    intro n j; refine Ev.some' _ (fun _ => ?_); split <;> rfl
  induction d with
  | zero =>
    intro n j h1 h3 hd hn ha hb hc hjs
    refine hex_stop s t i n j h1 h3 hn (hc (by omega)) hjs (Ev.step (fun k => ?_) (fin1 n j)) (Ev.step (fun k => ?_) (fin2 n j))
    · simp only [scan_escape.l0]
      by_cases c : (j : Int) < (t.size : Int)
      · rw [if_pos c, if_neg (by rw [w64 (by omega) (by omega)]; omega)]
      · rw [if_neg c]
    · simp only [sigilref4_escape.l1]; rw [if_neg (by omega)]
  | succ d ih =>
    intro n j h1 h3 hd hn ha hb hc hjs
    by_cases c : (j : Int) < (t.size : Int)
    · have hv := value_ev t (j : Int)
      have hx := hex_ev t (j : Int)
      have hr := hexv_range t (j : Int)
      have e1 : ∀ k, scan_escape.l0 (k + 1) t 16 (j : Int) 2 n 1 = (scan_value.f k (bt t (j : Int))).bind fun t105 => (if t105 < 16 then ((scan_value.f k (bt t (j : Int))).bind fun t106 => (scan_escape.l0 k t 16 (wrap64 ((j : Int) + 1)) 2 (wrap64 ((wrap64 (n * 16)) + t106)) 1)) else (if (j : Int) = 1 then (some (0, 0)) else (if n > 255 then (some (0, 0)) else (some ((n) % 256, (j : Int)))))) := by
        intro k; simp only [scan_escape.l0]
        rw [if_pos c, if_pos (by rw [w64 (by omega) (by omega)]; omega), if_pos (by omega)]
      have e2 : ∀ k, sigilref4_escape.l1 (k + 1) s (i : Int) n ((j : Int) + 1) = (sigilref4_hex.f k (bt t (j : Int))).bind fun t125 => (if t125 ≥ 0 then ((sigilref4_hex.f k (bt t (j : Int))).bind fun t126 => (sigilref4_escape.l1 k s (i : Int) (wrap64 ((wrap64 (n * 16)) + t126)) (wrap64 ((j : Int) + 1 + 1)))) else (if (j : Int) + 1 = 2 then (some (0, 0)) else (some ((n) % 256, (j : Int) + 1)))) := by
        intro k; simp only [sigilref4_escape.l1]
        rw [w64 (n := (i : Int) + ((j : Int) + 1)) (by omega) (by omega), if_pos (by omega), if_pos (by omega), if_pos (by omega), hbt (j : Int) (by omega) (by omega), show (i : Int) + ((j : Int) + 1) = (i : Int) + 1 + (j : Int) by omega]
      by_cases v : hexv (bt t (j : Int)) < 0
      · rw [if_pos v] at hv
        refine hex_stop s t i n j h1 h3 hn (by omega) hjs (Ev.step e1 (Ev.bind hv ?_)) (Ev.step e2 (Ev.bind hx ?_))
        · simp only [if_neg (show ¬ (99 : Int) < 16 by omega)]; exact fin1 n j
        · simp only [if_neg (show ¬ hexv (bt t (j : Int)) ≥ 0 by omega)]; exact fin2 n j
      · rw [if_neg v] at hv
        have w1 : wrap64 (n * 16) = n * 16 := w64 (by omega) (by omega)
        have w2 : wrap64 (n * 16 + hexv (bt t (j : Int))) = n * 16 + hexv (bt t (j : Int)) := w64 (by omega) (by omega)
        obtain ⟨b, m, h01, h02, h03, h04, h05, h06, h07⟩ := ih (n * 16 + hexv (bt t (j : Int))) (j + 1) (by omega) (by omega) (by omega) (by omega) (by omega) (by omega) (by omega) (by omega)
        refine ⟨b, m, h01, h02, h03, h04, h05, Ev.step e1 (Ev.bind hv ?_), Ev.step e2 (Ev.bind hx ?_)⟩
        · simp only [if_pos hr.2]
          refine Ev.bind hv ?_
          simp only [w1, w2]
          rw [w64 (n := (j : Int) + 1) (by omega) (by omega)]
          exact h06
        · simp only [if_pos (show hexv (bt t (j : Int)) ≥ 0 by omega)]
          refine Ev.bind hx ?_
          simp only [w1, w2]
          rw [w64 (n := (j : Int) + 1 + 1) (by omega) (by omega)]
          exact h07
    · refine hex_stop s t i n j h1 h3 hn (by omega) hjs (Ev.step (fun k => ?_) (fin1 n j)) (Ev.step (fun k => ?_) (fin2 n j))
      · simp only [scan_escape.l0]; rw [if_neg c]
      · simp only [sigilref4_escape.l1]
        rw [w64 (n := (i : Int) + ((j : Int) + 1)) (by omega) (by omega), if_pos (by omega), if_neg (by omega)]
theorem oct_stop (s t : ByteArray) (i : Nat) (n : Int) (j : Nat) (hj3 : j ≤ 3) (_hn : 0 ≤ n) (hjs : (i : Int) + 1 + j ≤ s.size ∨ j = 0)
    (e1 : Ev (fun k => scan_escape.l0 k t 8 (j : Int) 3 n 0) (if (j : Int) = 0 then (0, 0) else if n > 255 then (0, 0) else (n % 256, (j : Int))))
    (e2 : Ev (fun k => sigilref4_escape.l2 k s (i : Int) n ((j : Int) + 1)) (if (j : Int) + 1 = 1 then (0, 0) else if n > 255 then (0, 0) else (n % 256, (j : Int) + 1))) :
    ∃ b m, 0 ≤ m ∧ m ≤ 3 ∧ (m = 0 ∨ (i : Int) + 1 + m ≤ s.size) ∧ 0 ≤ b ∧ b < 256 ∧ Ev (fun k => scan_escape.l0 k t 8 (j : Int) 3 n 0) (b, m) ∧ Ev (fun k => sigilref4_escape.l2 k s (i : Int) n ((j : Int) + 1)) (b, if m = 0 then 0 else m + 1) := by
  by_cases c : j = 0
  · rw [if_pos (by omega)] at e1 e2
    exact ⟨0, 0, by omega, by omega, by omega, by omega, by omega, e1, e2⟩
  · rw [if_neg (by omega)] at e1 e2
    by_cases c2 : n > 255
    · rw [if_pos c2] at e1 e2
      exact ⟨0, 0, by omega, by omega, by omega, by omega, by omega, e1, e2⟩
    · rw [if_neg c2] at e1 e2
      refine ⟨n % 256, (j : Int), by omega, by omega, by omega, by omega, by omega, e1, ?_⟩
      rw [if_neg (by omega)]
      exact e2
/-- Octal digits. -/
theorem oct_digits (s : ByteArray) (hs : s.size ≤ 140737488355328) (i : Nat) (_hi : i + 1 ≤ s.size) (t : ByteArray) (hsz : t.size = s.size - (i + 1)) (hbt : ∀ j : Int, 0 ≤ j → j < (s.size : Int) - ((i : Int) + 1) → bt t j = bt s ((i : Int) + 1 + j)) (d : Nat) : ∀ (n : Int) (j : Nat), j ≤ 3 → 3 - j = d → 0 ≤ n → (j = 0 → n = 0) → (j = 1 → n ≤ 7) → (j = 2 → n ≤ 63) → (j = 3 → n ≤ 511) → ((i : Int) + 1 + j ≤ s.size ∨ j = 0) →
    ∃ b m, 0 ≤ m ∧ m ≤ 3 ∧ (m = 0 ∨ (i : Int) + 1 + m ≤ s.size) ∧ 0 ≤ b ∧ b < 256 ∧ Ev (fun k => scan_escape.l0 k t 8 (j : Int) 3 n 0) (b, m) ∧ Ev (fun k => sigilref4_escape.l2 k s (i : Int) n ((j : Int) + 1)) (b, if m = 0 then 0 else m + 1) := by
  have fin1 : ∀ (n : Int) (j : Nat), Ev (fun _ => (if (j : Int) = 0 then some ((0 : Int), (0 : Int)) else if n > 255 then some (0, 0) else some (n % 256, (j : Int)))) (if (j : Int) = 0 then (0, 0) else if n > 255 then (0, 0) else (n % 256, (j : Int))) := by
    intro n j; refine Ev.some' _ (fun _ => ?_); split
    · rfl
    · split <;> rfl
  have fin2 : ∀ (n : Int) (j : Nat), Ev (fun _ => (if (j : Int) + 1 = 1 then some ((0 : Int), (0 : Int)) else if n > 255 then some (0, 0) else some (n % 256, (j : Int) + 1))) (if (j : Int) + 1 = 1 then (0, 0) else if n > 255 then (0, 0) else (n % 256, (j : Int) + 1)) := by
    intro n j; refine Ev.some' _ (fun _ => ?_); split
    · rfl
    · split <;> rfl
  induction d with
  | zero =>
    intro n j h3 hd hn ha hb hc he hjs
    refine oct_stop s t i n j h3 hn hjs (Ev.step (fun k => ?_) (fin1 n j)) (Ev.step (fun k => ?_) (fin2 n j))
    · simp only [scan_escape.l0]
      by_cases c : (j : Int) < (t.size : Int)
      · rw [if_pos c, if_neg (by rw [w64 (by omega) (by omega)]; omega)]
      · rw [if_neg c]
    · simp only [sigilref4_escape.l2]; rw [if_neg (by omega)]
  | succ d ih =>
    intro n j h3 hd hn ha hb hc he hjs
    by_cases c : (j : Int) < (t.size : Int)
    · have hv := value_ev t (j : Int)
      obtain ⟨hx, hx2⟩ := digit8_eq t (j : Int)
      have hr := hexv_range t (j : Int)
      have e1 : ∀ k, scan_escape.l0 (k + 1) t 8 (j : Int) 3 n 0 = (scan_value.f k (bt t (j : Int))).bind fun t105 => (if t105 < 8 then ((scan_value.f k (bt t (j : Int))).bind fun t106 => (scan_escape.l0 k t 8 (wrap64 ((j : Int) + 1)) 3 (wrap64 ((wrap64 (n * 8)) + t106)) 0)) else (if (j : Int) = 0 then (some (0, 0)) else (if n > 255 then (some (0, 0)) else (some ((n) % 256, (j : Int)))))) := by
        intro k; simp only [scan_escape.l0]
        rw [if_pos c, if_pos (by rw [w64 (by omega) (by omega)]; omega), if_pos (by omega)]
      have e2 : ∀ k, sigilref4_escape.l2 (k + 1) s (i : Int) n ((j : Int) + 1) = (if decide (0 ≤ hexv (bt t (j : Int)) ∧ hexv (bt t (j : Int)) < 8) = true then (sigilref4_escape.l2 k s (i : Int) (wrap64 ((wrap64 (n * 8)) + ((bt t (j : Int) - 48) % 256))) (wrap64 ((j : Int) + 1 + 1))) else (if (j : Int) + 1 = 1 then (some (0, 0)) else (if n > 255 then (some (0, 0)) else (some ((n) % 256, (j : Int) + 1))))) := by
        intro k; simp only [sigilref4_escape.l2]
        rw [w64 (n := (i : Int) + ((j : Int) + 1)) (by omega) (by omega), if_pos (by omega), if_pos (by omega), if_pos (by omega), show (i : Int) + ((j : Int) + 1) = (i : Int) + 1 + (j : Int) by omega, ← hbt (j : Int) (by omega) (by omega), hx]
        rfl
      by_cases v : 0 ≤ hexv (bt t (j : Int)) ∧ hexv (bt t (j : Int)) < 8
      · rw [if_neg (by omega)] at hv
        have w1 : wrap64 (n * 8) = n * 8 := w64 (by omega) (by omega)
        have w2 : wrap64 (n * 8 + hexv (bt t (j : Int))) = n * 8 + hexv (bt t (j : Int)) := w64 (by omega) (by omega)
        obtain ⟨b, m, h01, h02, h03, h04, h05, h06, h07⟩ := ih (n * 8 + hexv (bt t (j : Int))) (j + 1) (by omega) (by omega) (by omega) (by omega) (by omega) (by omega) (by omega) (by omega)
        refine ⟨b, m, h01, h02, h03, h04, h05, Ev.step e1 (Ev.bind hv ?_), Ev.step e2 ?_⟩
        · simp only [if_pos v.2]
          refine Ev.bind hv ?_
          simp only [w1, w2]
          rw [w64 (n := (j : Int) + 1) (by omega) (by omega)]
          exact h06
        · simp only [decide_eq_true v, if_true, hx2 v.1 v.2, w1, w2]
          rw [w64 (n := (j : Int) + 1 + 1) (by omega) (by omega)]
          exact h07
      · refine oct_stop s t i n j h3 hn hjs (Ev.step e1 (Ev.bind hv ?_)) (Ev.step e2 ?_)
        · have hge : ¬ (if hexv (bt t (j : Int)) < 0 then 99 else hexv (bt t (j : Int))) < 8 := by
            by_cases v0 : hexv (bt t (j : Int)) < 0
            · rw [if_pos v0]; omega
            · rw [if_neg v0]; omega
          simp only [if_neg hge]; exact fin1 n j
        · simp only [decide_eq_false v]; exact fin2 n j
    · refine oct_stop s t i n j h3 hn hjs (Ev.step (fun k => ?_) (fin1 n j)) (Ev.step (fun k => ?_) (fin2 n j))
      · simp only [scan_escape.l0]; rw [if_neg c]
      · simp only [sigilref4_escape.l2]
        rw [w64 (n := (i : Int) + ((j : Int) + 1)) (by omega) (by omega), if_pos (by omega), if_neg (by omega)]
/-- An escape whose backslash stands at place i. -/
theorem escape_both (s : ByteArray) (hs : s.size ≤ 140737488355328) (i : Nat) (hi : i < s.size) :
    ∃ b m, 0 ≤ m ∧ m ≤ 3 ∧ (m = 0 ∨ (i : Int) + 1 + m ≤ s.size) ∧ 0 ≤ b ∧ b < 256 ∧ Ev (fun k => scan_escape.f k (s.extract (i + 1) s.size)) (b, m) ∧ Ev (fun k => sigilref4_escape.f k s (i : Int)) (b, if m = 0 then 0 else m + 1) := by
  have hsz := size_extract s (i + 1) s.size (Nat.le_refl _)
  have hbt : ∀ j : Int, 0 ≤ j → j < (s.size : Int) - ((i : Int) + 1) → bt (s.extract (i + 1) s.size) j = bt s ((i : Int) + 1 + j) := by
    intro j h0 h1
    rw [bt_extract s (i + 1) s.size (Nat.le_refl _) j h0 (by omega)]; rfl
  generalize s.extract (i + 1) s.size = t at *
  have wi : wrap64 ((i : Int) + 1) = (i : Int) + 1 := w64 (by omega) (by omega)
  by_cases c : t.size = 0
  · refine ⟨0, 0, by omega, by omega, by omega, by omega, by omega, Ev.some' _ (fun k => ?_), Ev.some' _ (fun k => ?_)⟩
    · simp only [scan_escape.f]; rw [if_pos ((toList_nil t).2 c)]
    · simp only [sigilref4_escape.f]; rw [wi, if_pos (by omega)]; rfl
  have c' : ¬ t.toList = ([] : List UInt8) := fun h => c ((toList_nil t).1 h)
  have h0 : bt t 0 = bt s ((i : Int) + 1) := by rw [hbt 0 (by omega) (by omega)]; congr 1
  have e1 : ∀ k, scan_escape.f k t = if (simple (bt t 0)).2 = true then some ((simple (bt t 0)).1, 1) else (if bt t 0 = 120 then scan_escape.j0 k t 8 0 3 true else scan_escape.j0 k t 8 0 3 (bt t 0 == 88)) := by
    intro k; simp only [scan_escape.f]; rw [if_neg c', if_pos (by omega), simple_eq]; rfl
  have e2 : ∀ k, sigilref4_escape.f k s (i : Int) = sigilref4_escape.l0 k s (i : Int) (bt t 0) names worths 0 := by
    intro k; simp only [sigilref4_escape.f]; rw [wi, if_neg (by omega), if_pos (by omega), if_pos (by omega), h0]; rfl
  have hbr := bt_range t 0
  rcases names_walk s (i : Int) (bt t 0) ⟨⟨(bt t 0).toNat, by omega⟩, by simp; omega⟩ with ⟨b, hb, hb0, hb1, hb2⟩ | ⟨hb, hb2⟩
  · refine ⟨b, 1, by omega, by omega, by omega, hb0, hb1, Ev.some' _ (fun k => ?_), Ev.congr e2 hb2⟩
    rw [e1, hb]; rfl
  · have e3 : ∀ k, scan_escape.f k t = if bt t 0 = 120 then scan_escape.j0 k t 8 0 3 true else scan_escape.j0 k t 8 0 3 (bt t 0 == 88) := by
      intro k; rw [e1, hb]; rfl
    by_cases cx : bt t 0 = 120 ∨ bt t 0 = 88
    · obtain ⟨b, m, h01, h02, h03, h04, h05, h06, h07⟩ := hex_digits s hs i (by omega) t hsz hbt 2 0 1 (by omega) (by omega) (by omega) (by omega) (by omega) (by omega) (by omega) (by omega)
      refine ⟨b, m, h01, h02, h03, h04, h05, ?_, Ev.congr e2 (hb2 _ ?_)⟩
      · refine Ev.congr (f := fun k => scan_escape.j0 k t 8 0 3 true) (fun k => ?_) (Ev.step (f := fun k => scan_escape.j1 k t 16 1 2) (fun k => ?_) (Ev.step (f := fun k => scan_escape.l0 k t 16 1 2 0 1) (fun k => ?_) h06))
        · rw [e3]
          rcases cx with cx | cx
          · rw [if_pos cx]
          · rw [if_neg (by omega), cx]; rfl
        · simp only [scan_escape.j0]; rw [if_pos trivial]
        · simp only [scan_escape.j1]
      · refine Ev.step (f := fun k => sigilref4_escape.l1 k s (i : Int) 0 2) (fun k => ?_) h07
        simp only [sigilref4_escape.j1]
        rw [if_pos (by rcases cx with cx | cx <;> rw [cx] <;> rfl)]
    · obtain ⟨b, m, h01, h02, h03, h04, h05, h06, h07⟩ := oct_digits s hs i (by omega) t hsz hbt 3 0 0 (by omega) (by omega) (by omega) (by omega) (by omega) (by omega) (by omega) (by omega)
      refine ⟨b, m, h01, h02, h03, h04, h05, ?_, Ev.congr e2 (hb2 _ ?_)⟩
      · refine Ev.congr (f := fun k => scan_escape.j0 k t 8 0 3 false) (fun k => ?_) (Ev.step (f := fun k => scan_escape.j1 k t 8 0 3) (fun k => ?_) (Ev.step (f := fun k => scan_escape.l0 k t 8 0 3 0 0) (fun k => ?_) h06))
        · rw [e3, if_neg (by omega), show (bt t 0 == 88) = false from beq_eq_false_iff_ne.mpr (by omega)]
        · simp only [scan_escape.j0]; rw [if_neg Bool.false_ne_true]
        · simp only [scan_escape.j1]
      · refine Ev.step (f := fun k => sigilref4_escape.l2 k s (i : Int) 0 1) (fun k => ?_) h07
        simp only [sigilref4_escape.j1]
        rw [show (bt t 0 == 120) = false from beq_eq_false_iff_ne.mpr (by omega), show (bt t 0 == 88) = false from beq_eq_false_iff_ne.mpr (by omega)]
        rfl

/-- Both take a string off: what it means, and where it ends; the document's from place a of s on, scan's from the begin of the text behind a. -/
theorem quoted_from (s t : ByteArray) (hs : s.size ≤ 140737488355320) (a : Nat) (ha : a ≤ s.size) (hsz : t.size = s.size - a) (hbt : ∀ j : Int, 0 ≤ j → j < (t.size : Int) → bt t j = bt s ((a : Int) + j)) (hext : ∀ j : Nat, j ≤ t.size → t.extract j t.size = s.extract (a + j) s.size)
    (q : Int) (hq : q = bt t 0) (d : Nat) : ∀ (i : Nat) (l : List Int), 1 ≤ i → i ≤ t.size → t.size - i ≤ d → l.length ≤ i →
    ∃ r : List Int × Int, Ev (fun k => sigilref4_quoted.l0 k s q l ((a : Int) + i)) (r.1, if r.2 = 0 then 0 else (a : Int) + r.2) ∧ Ev (fun k => scan_unquoted.l0 k t l (i : Int)) (if r.2 = 0 then ((⟨#[]⟩ : ByteArray), 0, false) else (strOfNums r.1, r.2, true)) ∧ (r.2 = 0 ∧ r.1 = [] ∨ (i : Int) < r.2 ∧ r.2 ≤ t.size) := by
  have stop : ∀ (i : Nat) (l : List Int), 1 ≤ i → i = t.size → ∃ r : List Int × Int, Ev (fun k => sigilref4_quoted.l0 k s q l ((a : Int) + i)) (r.1, if r.2 = 0 then 0 else (a : Int) + r.2) ∧ Ev (fun k => scan_unquoted.l0 k t l (i : Int)) (if r.2 = 0 then ((⟨#[]⟩ : ByteArray), 0, false) else (strOfNums r.1, r.2, true)) ∧ (r.2 = 0 ∧ r.1 = [] ∨ (i : Int) < r.2 ∧ r.2 ≤ t.size) := by
    intro i l h1 h2
    refine ⟨([], 0), Ev.step (f := fun k => sigilref4_quoted.j1 k s q l ((a : Int) + i) false) (fun k => ?_) (Ev.step (f := fun _ => some ([], 0)) (fun k => ?_) (Ev.now _)), ?_, .inl ⟨rfl, rfl⟩⟩
    · simp only [sigilref4_quoted.l0]; rw [if_neg (by omega)]
    · simp only [sigilref4_quoted.j1]; rw [if_neg Bool.false_ne_true, if_pos (by omega)]
    · refine Ev.step (f := fun _ => some ((⟨#[]⟩ : ByteArray), 0, false)) (fun k => ?_) (Ev.now _)
      simp only [scan_unquoted.l0]; rw [if_neg (by omega)]
  induction d with
  | zero =>
    intro i l h1 h2 hd hl
    exact stop i l h1 (by omega)
  | succ d ih =>
    intro i l h1 h2 hd hl
    by_cases hlt : i < t.size
    · have hb := hbt (i : Int) (by omega) (by omega)
      have hb0 := hbt 0 (by omega) (by omega)
      by_cases cq : bt t (i : Int) = q
      · refine ⟨(l, (i : Int) + 1), ?_, ?_, .inr (by simp only []; omega)⟩
        · rw [if_neg (show ¬ (i : Int) + 1 = 0 by omega)]
          refine Ev.step (f := fun k => sigilref4_quoted.j1 k s q l ((a : Int) + i) false) (fun k => ?_) (Ev.step (f := fun _ => some (l, (a : Int) + ((i : Int) + 1))) (fun k => ?_) (Ev.now _))
          · simp only [sigilref4_quoted.l0]; rw [if_pos (by omega), if_pos (by omega), ← hb, cq]; simp
          · simp only [sigilref4_quoted.j1]; rw [if_neg Bool.false_ne_true, if_neg (by omega), w64 (by omega) (by omega), Int.add_assoc]
        · rw [if_neg (show ¬ (i : Int) + 1 = 0 by omega)]
          refine Ev.step (f := fun _ => some (strOfNums l, (i : Int) + 1, true)) (fun k => ?_) (Ev.now _)
          simp only [scan_unquoted.l0]; rw [if_pos (by omega), if_pos (by omega), if_pos (by omega), if_pos (by rw [cq, hq]), w64 (by omega) (by omega)]
      · have r1 : ∀ k, sigilref4_quoted.l0 (k + 1) s q l ((a : Int) + i) = sigilref4_quoted.j1 k s q l ((a : Int) + i) true := by
          intro k; simp only [sigilref4_quoted.l0]; rw [if_pos (by omega), if_pos (by omega), ← hb, show (bt t (i : Int) != q) = true from bne_iff_ne.mpr cq]
        have r2 : ∀ k, sigilref4_quoted.j1 (k + 1) s q l ((a : Int) + i) true = sigilref4_quoted.j2 k s q l ((a : Int) + i) (bt t (i : Int)) (bt t (i : Int) == 0 || bt t (i : Int) == 10) := by
          intro k; simp only [sigilref4_quoted.j1]; rw [if_pos trivial, if_pos (by omega), if_pos (by omega), ← hb]
          by_cases e : bt t (i : Int) = 0
          · rw [if_pos e, e]; rfl
          · rw [if_neg e, show (bt t (i : Int) == 0) = false from beq_eq_false_iff_ne.mpr e]; rfl
        have u1 : ∀ k, scan_unquoted.l0 (k + 1) t l (i : Int) = scan_unquoted.j2 k t l (i : Int) (bt t (i : Int)) (bt t (i : Int)) (bt t (i : Int) == 0 || bt t (i : Int) == 10) := by
          intro k; simp only [scan_unquoted.l0]; rw [if_pos (by omega), if_pos (by omega), if_pos (by omega), if_neg (by rw [← hq]; exact cq)]
          by_cases e : bt t (i : Int) = 0
          · rw [if_pos e, e]; rfl
          · rw [if_neg e, show (bt t (i : Int) == 0) = false from beq_eq_false_iff_ne.mpr e]; rfl
        by_cases c0 : (bt t (i : Int) == 0 || bt t (i : Int) == 10) = true
        · rw [c0] at r2 u1
          refine ⟨([], 0), Ev.step r1 (Ev.step r2 (Ev.step (f := fun _ => some ([], 0)) (fun k => ?_) (Ev.now _))), Ev.step u1 (Ev.step (f := fun _ => some ((⟨#[]⟩ : ByteArray), 0, false)) (fun k => ?_) (Ev.now _)), .inl ⟨rfl, rfl⟩⟩
          · simp only [sigilref4_quoted.j2]; rw [if_pos trivial]
          · simp only [scan_unquoted.j2]; rw [if_pos trivial]
        · rw [Bool.not_eq_true] at c0
          rw [c0] at r2 u1
          by_cases c9 : bt t (i : Int) = 92
          · obtain ⟨b, m, h01, h02, h03, h04, h05, h06, h07⟩ := escape_both s (by omega) (a + i) (by omega)
            rw [show ((a + i : Nat) : Int) = (a : Int) + i by omega] at h03 h07
            have r3 : ∀ k, sigilref4_quoted.j2 (k + 1) s q l ((a : Int) + i) (bt t (i : Int)) false = (sigilref4_escape.f k s ((a : Int) + i)).bind fun bt128 => (if bt128.2 = 0 then (some (([] : List Int), 0)) else (if l.length < 140737488355328 then (sigilref4_quoted.l0 k s q (l ++ [bt128.1]) (wrap64 ((a : Int) + i + bt128.2))) else (none))) := by
              intro k; simp only [sigilref4_quoted.j2]; rw [if_neg Bool.false_ne_true, if_pos c9]
            have u2 : ∀ k, scan_unquoted.j2 (k + 1) t l (i : Int) (bt t (i : Int)) (bt t (i : Int)) false = (scan_escape.f k (s.extract (a + i + 1) s.size)).bind fun bt108 => (if bt108.2 = 0 then (some ((⟨#[]⟩ : ByteArray), 0, false)) else (if l.length < 140737488355328 then (scan_unquoted.l0 k t (l ++ [bt108.1]) (wrap64 ((i : Int) + (wrap64 (1 + bt108.2))))) else (none))) := by
              intro k; simp only [scan_unquoted.j2]; rw [if_neg Bool.false_ne_true, if_pos c9, w64 (n := (i : Int) + 1) (by omega) (by omega), if_pos (by omega), if_pos (by omega), show ((i : Int) + 1).toNat = i + 1 by omega, hext (i + 1) (by omega), show a + (i + 1) = a + i + 1 by omega]
            by_cases cm : m = 0
            · rw [if_pos cm] at h07
              refine ⟨([], 0), Ev.step r1 (Ev.step r2 (Ev.step r3 (Ev.bind h07 (Ev.now _)))), Ev.step u1 (Ev.step u2 (Ev.bind h06 ?_)), .inl ⟨rfl, rfl⟩⟩
              simp only [if_pos cm]
              exact Ev.now _
            · rw [if_neg cm] at h07
              obtain ⟨r, g1, g2, g3⟩ := ih (i + 1 + m.toNat) (l ++ [b]) (by omega) (by omega) (by omega) (by rw [List.length_append]; simp; omega)
              have em : ((i + 1 + m.toNat : Nat) : Int) = (i : Int) + (m + 1) := by omega
              rw [em] at g1 g2 g3
              refine ⟨r, Ev.step r1 (Ev.step r2 (Ev.step r3 (Ev.bind h07 ?_))), Ev.step u1 (Ev.step u2 (Ev.bind h06 ?_)), g3.imp id (fun h => ⟨by omega, h.2⟩)⟩
              · simp only [if_neg (show ¬ m + 1 = 0 by omega), if_pos (show l.length < 140737488355328 by omega)]
                rw [w64 (n := (a : Int) + i + (m + 1)) (by omega) (by omega), Int.add_assoc]
                exact g1
              · simp only [if_neg cm, if_pos (show l.length < 140737488355328 by omega)]
                rw [w64 (n := 1 + m) (by omega) (by omega), show (i : Int) + (1 + m) = (i : Int) + (m + 1) by omega, w64 (n := (i : Int) + (m + 1)) (by omega) (by omega)]
                exact g2
          · obtain ⟨r, g1, g2, g3⟩ := ih (i + 1) (l ++ [bt t (i : Int)]) (by omega) (by omega) (by omega) (by rw [List.length_append]; simp; omega)
            refine ⟨r, Ev.step r1 (Ev.step r2 (Ev.step (f := fun k => sigilref4_quoted.l0 k s q (l ++ [bt t (i : Int)]) ((a : Int) + ((i + 1 : Nat) : Int))) (fun k => ?_) g1)), Ev.step u1 (Ev.step (f := fun k => scan_unquoted.l0 k t (l ++ [bt t (i : Int)]) ((i + 1 : Nat) : Int)) (fun k => ?_) g2), g3.imp id (fun h => ⟨by omega, h.2⟩)⟩
            · simp only [sigilref4_quoted.j2]; rw [if_neg Bool.false_ne_true, if_neg c9, if_pos (by omega), w64 (n := (a : Int) + i + 1) (by omega) (by omega), Int.add_assoc]; rfl
            · simp only [scan_unquoted.j2]; rw [if_neg Bool.false_ne_true, if_neg c9, if_pos (by omega), w64 (n := (i : Int) + 1) (by omega) (by omega)]; rfl
    · exact stop i l h1 (by omega)
set_option maxRecDepth 100000 in
theorem quote_tab : ∀ n : Fin 256, (cls (n.val : Int) = 4) ↔ ((n.val : Int) = 34 ∨ (n.val : Int) = 39) := by decide +kernel
theorem quote_eq (s : ByteArray) (i : Int) : (cls (bt s i) = 4) ↔ (bt s i = 34 ∨ bt s i = 39) :=
  byte_all (P := fun c => (cls c = 4) ↔ (c = 34 ∨ c = 39)) quote_tab (bt_range s i).1 (bt_range s i).2
/-- At place a of s a quote stands; t is the text from there on. -/
theorem unquoted_at (s t : ByteArray) (hs : s.size ≤ 140737488355320) (a : Nat) (ha : a < s.size) (hsz : t.size = s.size - a) (hbt : ∀ j : Int, 0 ≤ j → j < (t.size : Int) → bt t j = bt s ((a : Int) + j)) (hext : ∀ j : Nat, j ≤ t.size → t.extract j t.size = s.extract (a + j) s.size) (hq : bt t 0 = 34 ∨ bt t 0 = 39) :
    ∃ r : List Int × Int, Ev (fun k => sigilref4_quoted.f k s (a : Int)) (r.1, if r.2 = 0 then 0 else (a : Int) + r.2) ∧ Ev (fun k => scan_unquoted.f k t) (if r.2 = 0 then ((⟨#[]⟩ : ByteArray), 0, false) else (strOfNums r.1, r.2, true)) ∧ (r.2 = 0 ∧ r.1 = [] ∨ 1 < r.2 ∧ r.2 ≤ t.size) := by
  obtain ⟨r, h1, h2, h3⟩ := quoted_from s t hs a (by omega) hsz hbt hext (bt t 0) rfl t.size 1 [] (by omega) (by omega) (by omega) (by simp)
  have hb0 := hbt 0 (by omega) (by omega)
  rw [Int.add_zero] at hb0
  refine ⟨r, Ev.congr (f := fun k => sigilref4_quoted.l0 k s (bt t 0) [] ((a : Int) + 1)) (fun k => ?_) h1, ?_, h3⟩
  · simp only [sigilref4_quoted.f]; rw [if_pos (by omega), if_pos (by omega), w64 (by omega) (by omega), hb0]
  · refine Ev.congr (f := fun k => (scan_class.f k (bt t 0)).bind fun t107 => scan_unquoted.j0 k t (t107 != 4)) (fun k => ?_) (Ev.bind (class_ev t 0) ?_)
    · simp only [scan_unquoted.f]; rw [if_neg (fun h => by have := (toList_nil t).1 h; omega), if_pos (by omega)]
    · rw [show (cls (bt t 0) != 4) = false from bne_eq_false_iff_eq.mpr ((quote_eq t 0).2 hq)]
      exact Ev.step (f := fun k => scan_unquoted.l0 k t [] 1) (fun k => by simp only [scan_unquoted.j0]; rw [if_neg Bool.false_ne_true]) h2
/-- A text that begins with a quote. -/
theorem unquoted_both (s : ByteArray) (hs : s.size ≤ 140737488355320) (h0 : 0 < s.size) (hq : bt s 0 = 34 ∨ bt s 0 = 39) :
    ∃ r : List Int × Int, Ev (fun k => sigilref4_quoted.f k s 0) r ∧ Ev (fun k => scan_unquoted.f k s) (if r.2 = 0 then ((⟨#[]⟩ : ByteArray), 0, false) else (strOfNums r.1, r.2, true)) ∧ (r.2 = 0 ∧ r.1 = [] ∨ 1 < r.2 ∧ r.2 ≤ s.size) := by
  obtain ⟨r, h1, h2, h3⟩ := unquoted_at s s hs 0 h0 (by omega) (fun j _ _ => by congr 1; omega) (fun j _ => by rw [Nat.zero_add]) hq
  refine ⟨r, ?_, h2, h3⟩
  have e : (r.1, if r.2 = 0 then 0 else ((0 : Nat) : Int) + r.2) = r := by
    by_cases c : r.2 = 0
    · rw [if_pos c]; exact Prod.ext rfl c.symm
    · rw [if_neg c]; exact Prod.ext rfl (by simp)
  rw [e] at h1
  exact h1
/-- Unquote, both. -/
theorem unquote_both (s : ByteArray) (hs : s.size ≤ 140737488355328) : ∃ r : ByteArray × Int, Ev (fun k => scan_Unquote.f k s) r ∧ Ev (fun k => sigilref4_Unquote.f k s) r := by
  by_cases c : (s.size : Int) > 65536
  · exact ⟨((⟨#[]⟩ : ByteArray), 2), Ev.some' _ (fun k => by simp only [scan_Unquote.f]; rw [if_pos c]), Ev.some' _ (fun k => by simp only [sigilref4_Unquote.f]; rw [if_pos c])⟩
  obtain ⟨u, hu1, hu2, _⟩ := utf8_both s hs
  have e1 : ∀ k, scan_Unquote.f k s = (wire_Utf8.f k s).bind fun t116 => (if t116 ≥ 0 then (some ((⟨#[]⟩ : ByteArray), 44)) else ((scan_unquoted.f k s).bind fun bt117 => (if bt117.2.2 = true then (if bt117.2.1 = (s.size : Int) then (some (bt117.1, 0)) else (some ((⟨#[]⟩ : ByteArray), 42))) else (some ((⟨#[]⟩ : ByteArray), 42))))) := by
    intro k; simp only [scan_Unquote.f]; rw [if_neg c]
  have e2 : ∀ k, sigilref4_Unquote.f k s = (sigilref4_Utf8.f k s).bind fun t136 => (if t136 ≥ 0 then (some ((⟨#[]⟩ : ByteArray), 44)) else (if s.toList = ([] : List UInt8) then (sigilref4_Unquote.j0 k s true) else (if 0 < (s.size : Int) then (if (bt s 0) = 34 then (sigilref4_Unquote.j0 k s false) else (sigilref4_Unquote.j0 k s ((bt s 0) != 39))) else (none)))) := by
    intro k; simp only [sigilref4_Unquote.f]; rw [if_neg c]
  by_cases hu : u ≥ 0
  · refine ⟨((⟨#[]⟩ : ByteArray), 44), Ev.congr e1 (Ev.bind hu1 ?_), Ev.congr e2 (Ev.bind hu2 ?_)⟩
    · simp only [if_pos hu]; exact Ev.now _
    · simp only [if_pos hu]; exact Ev.now _
  · have bad1 : ∀ {x : ByteArray × Int × Bool}, Ev (fun k => scan_unquoted.f k s) x → x.2.2 = false → Ev (fun k => scan_Unquote.f k s) ((⟨#[]⟩ : ByteArray), 42) := by
      intro x hx hf
      refine Ev.congr e1 (Ev.bind hu1 ?_)
      simp only [if_neg hu]
      refine Ev.bind hx ?_
      simp only [hf, if_neg Bool.false_ne_true]
      exact Ev.now _
    by_cases hz : s.size = 0
    · refine ⟨((⟨#[]⟩ : ByteArray), 42), bad1 (x := ((⟨#[]⟩ : ByteArray), 0, false)) ?_ rfl, Ev.congr e2 (Ev.bind hu2 ?_)⟩
      · refine Ev.congr (f := fun k => scan_unquoted.j0 k s true) (fun k => ?_) (Ev.step (f := fun _ => some ((⟨#[]⟩ : ByteArray), 0, false)) (fun k => ?_) (Ev.now _))
        · simp only [scan_unquoted.f]; rw [if_pos ((toList_nil s).2 hz)]
        · simp only [scan_unquoted.j0]; rw [if_pos trivial]
      · simp only [if_neg hu, if_pos ((toList_nil s).2 hz)]
        exact Ev.step (f := fun _ => some ((⟨#[]⟩ : ByteArray), 42)) (fun k => by simp only [sigilref4_Unquote.j0]; rw [if_pos trivial]) (Ev.now _)
    have hn : ¬ s.toList = ([] : List UInt8) := fun h => hz ((toList_nil s).1 h)
    by_cases hq : bt s 0 = 34 ∨ bt s 0 = 39
    · obtain ⟨r, h1, h2, h3⟩ := unquoted_both s (by omega) (by omega) hq
      have e3 : Ev (fun k => sigilref4_Unquote.f k s) (if r.2 = (s.size : Int) then (strOfNums r.1, 0) else ((⟨#[]⟩ : ByteArray), 42)) := by
        refine Ev.congr e2 (Ev.bind hu2 ?_)
        simp only [if_neg hu, if_neg hn, if_pos (show 0 < (s.size : Int) by omega)]
        refine Ev.congr (f := fun k => sigilref4_Unquote.j0 k s false) (fun k => ?_) (Ev.step (f := fun k => (sigilref4_quoted.f k s 0).bind fun bt137 => (if bt137.2 = (s.size : Int) then (some (strOfNums bt137.1, 0)) else (some ((⟨#[]⟩ : ByteArray), 42)))) (fun k => ?_) (Ev.bind h1 ?_))
        · rcases hq with hq | hq
          · rw [if_pos hq]
          · rw [if_neg (by omega), hq]; rfl
        · simp only [sigilref4_Unquote.j0]; rw [if_neg Bool.false_ne_true]
        · refine Ev.some' _ (fun k => ?_)
          split <;> rfl
      refine ⟨_, ?_, e3⟩
      by_cases cz : r.2 = 0
      · rw [if_pos cz] at h2
        rw [if_neg (by omega)]
        exact bad1 h2 rfl
      · rw [if_neg cz] at h2
        refine Ev.congr e1 (Ev.bind hu1 ?_)
        simp only [if_neg hu]
        refine Ev.bind h2 ?_
        refine Ev.some' _ (fun k => ?_)
        simp only [if_true]
        split <;> rfl
    · refine ⟨((⟨#[]⟩ : ByteArray), 42), bad1 (x := ((⟨#[]⟩ : ByteArray), 0, false)) ?_ rfl, Ev.congr e2 (Ev.bind hu2 ?_)⟩
      · refine Ev.congr (f := fun k => (scan_class.f k (bt s 0)).bind fun t107 => scan_unquoted.j0 k s (t107 != 4)) (fun k => ?_) (Ev.bind (class_ev s 0) ?_)
        · simp only [scan_unquoted.f]; rw [if_neg hn, if_pos (by omega)]
        · rw [show (cls (bt s 0) != 4) = true from bne_iff_ne.mpr (fun h => hq ((quote_eq s 0).1 h))]
          exact Ev.step (f := fun _ => some ((⟨#[]⟩ : ByteArray), 0, false)) (fun k => by simp only [scan_unquoted.j0]; rw [if_pos trivial]) (Ev.now _)
      · simp only [if_neg hu, if_neg hn, if_pos (show 0 < (s.size : Int) by omega), if_neg (show ¬ bt s 0 = 34 by omega)]
        rw [show (bt s 0 != 39) = true from bne_iff_ne.mpr (by omega)]
        exact Ev.step (f := fun _ => some ((⟨#[]⟩ : ByteArray), 42)) (fun k => by simp only [sigilref4_Unquote.j0]; rw [if_pos trivial]) (Ev.now _)
end Go.Proofs.YtabgnbbljjohdaaRDoor.Unq
