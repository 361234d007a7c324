/- Plain laws of the scanner: scan.Tokens and the document's Tokens answer alike, for every text. -/
import Derived.Test.YtabgnbbljjohdaaRDoorToks
import Derived.Test.YtabgnbbljjohdaaRDoorWorth
namespace Go.Proofs.YtabgnbbljjohdaaRDoor.Toks
open Go.RowKit Go.Proofs.YtabgnbbljjohdaaRDoor.A Go.Proofs.YtabgnbbljjohdaaRDoorW.PrintWords Go.Proofs.YtabgnbbljjohdaaRDoor.U Go.Proofs.YtabgnbbljjohdaaRDoor.Scan1 Go.Proofs.YtabgnbbljjohdaaRDoor.Utf8 Go.Proofs.YtabgnbbljjohdaaRDoor.Unq Go.Proofs.YtabgnbbljjohdaaRDoor.Worth

set_option linter.unusedSectionVars false
/-- What both make of the piece that stands at place a (no blank, no comment). -/
def Piece (s : ByteArray) (a : Nat) (c : Int) : Prop := ∃ p : Int × Int × Int, Ev (fun k => scan_disp k c (s.extract a s.size)) p ∧ p.2.2 ≠ 43 ∧ (p.2.2 = 0 → 1 ≤ p.1 ∧ p.1 ≤ 4 ∧ 1 ≤ p.2.1 ∧ (a : Int) + p.2.1 ≤ s.size) ∧
  Ev (fun k => sigilref4_one.f k s (a : Int)) (if p.2.2 = 0 then (p.1, (a : Int) + p.2.1, 0) else (0, 0, p.2.2))

section
variable (s : ByteArray) (hs : s.size ≤ 65536)
include hs

theorem one_row (a : Nat) (c : Int) (e : Nat) (he : e ≤ s.size) (hend : e < s.size → word (bt s (e : Int)) = false) (d : Nat) : ∀ i : Nat, i ≤ e → e - i = d → (∀ j : Int, (i : Int) ≤ j → j < e → word (bt s j) = true) →
    ∀ x, Ev (fun k => sigilref4_one.j1 k s (a : Int) c (e : Int)) x → Ev (fun k => sigilref4_one.l0 k s (a : Int) c (i : Int)) x := by
  induction d with
  | zero =>
    intro i hi hd hw x hx
    obtain rfl : i = e := by omega
    refine Ev.step (f := fun k => sigilref4_one.j1 k s (a : Int) c (i : Int)) (fun k => ?_) hx
    simp only [sigilref4_one.l0]
    by_cases h : i < s.size
    · have hw := hend h
      unfold word at hw
      have h2 : (cls (bt s (i : Int)) == 2) = false := by
        cases q : (cls (bt s (i : Int)) == 2) with
        | false => rfl
        | true => rw [q] at hw; cases hw
      have h3 : (cls (bt s (i : Int)) == 3) = false := by
        cases q : (cls (bt s (i : Int)) == 3) with
        | false => rfl
        | true => rw [q, Bool.or_true] at hw; cases hw
      rw [if_pos (by omega), if_pos (by omega), letter_eq, h2, digit_eq, h3]
      rfl
    · rw [if_neg (by omega)]
  | succ d ih =>
    intro i hi hd hw x hx
    refine Ev.step (f := fun k => sigilref4_one.l0 k s (a : Int) c ((i + 1 : Nat) : Int)) (fun k => ?_) (ih (i + 1) (by omega) (by omega) (fun j h1 h2 => hw j (by omega) h2) x hx)
    simp only [sigilref4_one.l0]
    have h := hw i (by omega) (by omega)
    unfold word at h
    rw [if_pos (by omega), if_pos (by omega), letter_eq, digit_eq, w64 (by omega) (by omega)]
    by_cases h2 : (cls (bt s (i : Int)) == 2) = true
    · rw [h2]; rfl
    · have h2' : (cls (bt s (i : Int)) == 2) = false := Bool.eq_false_iff.mpr h2
      rw [h2', Bool.false_or] at h
      rw [h2', h]; rfl

theorem sub_bt (a : Nat) (ha : a ≤ s.size) : (s.extract a s.size).size = s.size - a ∧ (∀ j : Int, 0 ≤ j → j < ((s.extract a s.size).size : Int) → bt (s.extract a s.size) j = bt s ((a : Int) + j)) ∧ (∀ j : Nat, j ≤ (s.extract a s.size).size → (s.extract a s.size).extract j (s.extract a s.size).size = s.extract (a + j) s.size) ∧ (∀ n : Nat, n ≤ s.size - a → (s.extract a s.size).extract 0 n = s.extract a (a + n)) := by
  have hsz := size_extract s a s.size (Nat.le_refl _)
  have hb : ∀ j : Int, 0 ≤ j → j < ((s.extract a s.size).size : Int) → bt (s.extract a s.size) j = bt s ((a : Int) + j) := fun j h0 h1 => bt_extract s a s.size (Nat.le_refl _) j h0 (by omega)
  refine ⟨hsz, hb, fun j hj => ?_, fun n hn => ?_⟩
  · have e1 := size_extract (s.extract a s.size) j (s.extract a s.size).size (Nat.le_refl _)
    have e2 := size_extract s (a + j) s.size (Nat.le_refl _)
    refine ext_bt (by omega) (fun i h0 h1 => ?_)
    rw [bt_extract (s.extract a s.size) j (s.extract a s.size).size (Nat.le_refl _) i h0 (by omega), hb _ (by omega) (by omega), bt_extract s (a + j) s.size (Nat.le_refl _) i h0 (by omega)]
    congr 1; omega
  · have e1 := size_extract (s.extract a s.size) 0 n (by omega)
    have e2 := size_extract s a (a + n) (by omega)
    refine ext_bt (by omega) (fun i h0 h1 => ?_)
    rw [bt_extract (s.extract a s.size) 0 n (by omega) i h0 (by omega), hb _ (by omega) (by omega), bt_extract s a (a + n) (by omega) i h0 (by omega)]
    congr 1; omega

theorem one_at (a : Nat) (ha : a < s.size) (k : Nat) : sigilref4_one.f k s (a : Int) = sigilref4_one.l0 k s (a : Int) (bt s (a : Int)) (a : Int) := by
  simp only [sigilref4_one.f]
  rw [if_pos (by omega), if_pos (by omega)]

/-- The row that begins at place a, seen from both. -/
theorem row_at (a : Nat) (ha : a < s.size) : ∃ n : Nat, Ev (fun k => scan_row.f k (s.extract a s.size)) (n : Int) ∧ a + n ≤ s.size ∧ (word (bt s (a : Int)) = true → 1 ≤ n) ∧
    ∀ x, Ev (fun k => sigilref4_one.j1 k s (a : Int) (bt s (a : Int)) ((a + n : Nat) : Int)) x → Ev (fun k => sigilref4_one.f k s (a : Int)) x := by
  obtain ⟨hsz, hb, _, _⟩ := sub_bt s hs a (by omega)
  obtain ⟨r, hr, h0, h1, h2, h3⟩ := row_ev (s.extract a s.size) (by omega)
  obtain ⟨n, rfl⟩ : ∃ n : Nat, r = (n : Int) := ⟨r.toNat, (Int.toNat_of_nonneg h0).symm⟩
  refine ⟨n, hr, by omega, fun hw => ?_, fun x hx => Ev.congr (fun k => one_at s hs a ha k) (one_row s hs a _ (a + n) (by omega) (fun h => ?_) n a (by omega) (by omega) (fun j hj hj2 => ?_) x hx)⟩
  · by_cases c : 1 ≤ n
    · exact c
    · exfalso
      obtain rfl : n = 0 := by omega
      have := h3 (by omega)
      rw [hb _ (by omega) (by omega)] at this
      rw [show (a : Int) + ((0 : Nat) : Int) = a by omega, hw] at this
      cases this
  · have := h3 (by omega)
    rw [hb _ (by omega) (by omega)] at this
    rw [show ((a + n : Nat) : Int) = (a : Int) + n by omega]
    exact this
  · have := h2 (j - a) (by omega) (by omega)
    rw [hb _ (by omega) (by omega), show (a : Int) + (j - a) = j by omega] at this
    exact this
theorem row_none (a : Nat) (ha : a < s.size) (hw : word (bt s (a : Int)) = false) : ∀ x, Ev (fun k => sigilref4_one.j1 k s (a : Int) (bt s (a : Int)) (a : Int)) x → Ev (fun k => sigilref4_one.f k s (a : Int)) x :=
  fun x hx => Ev.congr (fun k => one_at s hs a ha k) (one_row s hs a _ a (by omega) (fun _ => hw) 0 a (by omega) (by omega) (fun j _ _ => by omega) x hx)

theorem not_word (c : Int) (h2 : cls c ≠ 2) (h3 : cls c ≠ 3) : word c = false := by
  unfold word
  rw [beq_eq_false_iff_ne.mpr h2, beq_eq_false_iff_ne.mpr h3]; rfl

theorem piece_name (a : Nat) (ha : a < s.size) (hc : cls (bt s (a : Int)) = 2) : Piece s a 2 := by
  obtain ⟨n, h1, h2, h3, h4⟩ := row_at s hs a ha
  have h5 := h3 (by unfold word; rw [hc]; rfl)
  refine ⟨(1, (n : Int), 0), Ev.congr (f := fun k => (scan_row.f k (s.extract a s.size)).bind fun n => some (1, n, 0)) (fun k => rfl) (Ev.bind h1 (Ev.now _)), by show (0 : Int) ≠ 43; omega, fun _ => ⟨by show (1 : Int) ≤ 1; omega, by show (1 : Int) ≤ 4; omega, by show (1 : Int) ≤ n; omega, by show (a : Int) + n ≤ s.size; omega⟩, ?_⟩
  rw [if_pos rfl]
  refine h4 _ (Ev.step (f := fun _ => some (1, ((a + n : Nat) : Int), 0)) (fun k => ?_) (Ev.const ?_))
  · simp only [sigilref4_one.j1]
    rw [letter_eq, hc]; rfl
  · show some ((1 : Int), ((a + n : Nat) : Int), (0 : Int)) = some (1, (a : Int) + n, 0)
    rw [show ((a + n : Nat) : Int) = (a : Int) + n by omega]
theorem piece_number (a : Nat) (ha : a < s.size) (hc : cls (bt s (a : Int)) = 3) : Piece s a 3 := by
  obtain ⟨n, h1, h2, h3, h4⟩ := row_at s hs a ha
  have h5 := h3 (by unfold word; rw [hc]; rfl)
  obtain ⟨hsz, _, _, hx⟩ := sub_bt s hs a (by omega)
  have ez := size_extract s a (a + n) (by omega)
  obtain ⟨r, g1, g2⟩ := worth_both (s.extract a (a + n)) (by omega)
  refine ⟨if r.2 = true then (2, (n : Int), 0) else (0, 0, 41), ?_, ?_, fun h => ?_, ?_⟩
  · refine Ev.congr (f := fun k => scan_number.f k (s.extract a s.size)) (fun k => rfl) (Ev.congr (f := fun k => (scan_row.f k (s.extract a s.size)).bind fun t152 => if 0 ≤ t152 then (if t152 ≤ ((s.extract a s.size).size : Int) then ((scan_worth.f k ((s.extract a s.size).extract 0 (t152 : Int).toNat)).bind fun bt153 => (if bt153.2 = true then (some (2, t152, 0)) else (some (0, 0, 41)))) else (none)) else (none)) (fun k => rfl) (Ev.bind h1 ?_))
    simp only [if_pos (show (0 : Int) ≤ (n : Int) by omega), if_pos (show (n : Int) ≤ ((s.extract a s.size).size : Int) by omega), show ((n : Int)).toNat = n by omega, hx n (by omega)]
    refine Ev.bind g1 (Ev.some' _ (fun k => ?_))
    split <;> rfl
  · split
    · show (0 : Int) ≠ 43; omega
    · show (41 : Int) ≠ 43; omega
  · by_cases c : r.2 = true
    · rw [if_pos c]; exact ⟨by show (1 : Int) ≤ 2; omega, by show (2 : Int) ≤ 4; omega, by show (1 : Int) ≤ n; omega, by show (a : Int) + n ≤ s.size; omega⟩
    · rw [if_neg c] at h
      exact absurd h (by show ¬ (41 : Int) = 0; omega)
  · refine h4 _ (Ev.step (f := fun k => (sigilref4_Digits.f k (s.extract a (a + n))).bind fun bt180 => if bt180.2 = true then some (2, ((a + n : Nat) : Int), 0) else some (0, 0, 41)) (fun k => ?_) (Ev.bind g2 (Ev.some' _ (fun k => ?_))))
    · simp only [sigilref4_one.j1]
      rw [letter_eq, hc, digit_eq, hc]
      simp only [Option.bind_some, show ((3 : Int) == 2) = false from rfl, show ((3 : Int) == 3) = true from rfl, if_neg Bool.false_ne_true, if_true]
      rw [if_pos (by omega), if_pos (by omega), if_pos (by omega)]
      simp only [show ((a : Int)).toNat = a by omega, show (((a + n : Nat) : Int)).toNat = a + n by omega]
    · by_cases c : r.2 = true
      · rw [if_pos c, if_pos c, if_pos rfl]
        rw [show ((a + n : Nat) : Int) = (a : Int) + n by omega]
      · rw [if_neg c, if_neg c, if_neg (by show ¬ (41 : Int) = 0; omega)]
theorem j1_none (a : Nat) (h2 : cls (bt s (a : Int)) ≠ 2) (h3 : cls (bt s (a : Int)) ≠ 3) (k : Nat) (e : Int) : sigilref4_one.j1 (k + 1) s (a : Int) (bt s (a : Int)) e = sigilref4_one.j2 k s (a : Int) (bt s (a : Int)) (cls (bt s (a : Int)) == 4) := by
  simp only [sigilref4_one.j1]
  rw [letter_eq, digit_eq, beq_eq_false_iff_ne.mpr h2, beq_eq_false_iff_ne.mpr h3]
  simp only [Option.bind_some, if_neg Bool.false_ne_true]
  have q := quote_eq s (a : Int)
  by_cases h : bt s (a : Int) = 34
  · rw [if_pos h, beq_iff_eq.mpr (q.2 (.inl h))]
  · rw [if_neg h]
    congr 1
    rw [Bool.eq_iff_iff, beq_iff_eq, beq_iff_eq, q]
    constructor
    · exact fun e => .inr e
    · rintro (e | e)
      · exact absurd e h
      · exact e
theorem piece_text (a : Nat) (ha : a < s.size) (hc : cls (bt s (a : Int)) = 4) : Piece s a 4 := by
  obtain ⟨hsz, hb, hx, _⟩ := sub_bt s hs a (by omega)
  have hq : bt (s.extract a s.size) 0 = 34 ∨ bt (s.extract a s.size) 0 = 39 := by
    rw [hb 0 (by omega) (by omega), Int.add_zero]
    exact (quote_eq s (a : Int)).1 hc
  obtain ⟨r, g1, g2, g3⟩ := unquoted_at s (s.extract a s.size) (by omega) a ha hsz hb hx hq
  have m := row_none s hs a ha (not_word s hs _ (by omega) (by omega))
  have ej : ∀ k, sigilref4_one.j1 (k + 1) s (a : Int) (bt s (a : Int)) (a : Int) = sigilref4_one.j2 k s (a : Int) (bt s (a : Int)) true := by
    intro k; rw [j1_none s hs a (by omega) (by omega) k _, hc]; rfl
  have ej2 : ∀ k, sigilref4_one.j2 (k + 1) s (a : Int) (bt s (a : Int)) true = (sigilref4_quoted.f k s (a : Int)).bind fun bt182 => if bt182.2 = 0 then some (0, 0, 42) else some (3, bt182.2, 0) := by
    intro k; simp only [sigilref4_one.j2]; rw [if_pos trivial]
  by_cases c : r.2 = 0
  · rw [if_pos c] at g1 g2
    refine ⟨(0, 0, 42), Ev.congr (f := fun k => (scan_unquoted.f k (s.extract a s.size)).bind fun bt156 => if bt156.2.2 = true then some (3, bt156.2.1, 0) else some (0, 0, 42)) (fun k => rfl) (Ev.bind g2 (Ev.now _)), by show (42 : Int) ≠ 43; omega, fun h => absurd h (by show ¬ (42 : Int) = 0; omega), ?_⟩
    rw [if_neg (by show ¬ (42 : Int) = 0; omega)]
    exact m _ (Ev.step ej (Ev.step ej2 (Ev.bind g1 (Ev.now _))))
  · rw [if_neg c] at g1 g2
    have hr : 1 < r.2 ∧ r.2 ≤ (s.extract a s.size).size := by
      rcases g3 with ⟨h, _⟩ | h
      · exact absurd h c
      · exact h
    refine ⟨(3, r.2, 0), Ev.congr (f := fun k => (scan_unquoted.f k (s.extract a s.size)).bind fun bt156 => if bt156.2.2 = true then some (3, bt156.2.1, 0) else some (0, 0, 42)) (fun k => rfl) (Ev.bind g2 (Ev.now _)), by show (0 : Int) ≠ 43; omega, fun _ => ⟨by show (1 : Int) ≤ 3; omega, by show (3 : Int) ≤ 4; omega, by show (1 : Int) ≤ r.2; omega, by show (a : Int) + r.2 ≤ s.size; omega⟩, ?_⟩
    rw [if_pos rfl]
    refine m _ (Ev.step ej (Ev.step ej2 (Ev.bind g1 ?_)))
    simp only [if_neg (show ¬ (a : Int) + r.2 = 0 by omega)]
    exact Ev.now _
theorem piece_sign (a : Nat) (ha : a < s.size) (hc : cls (bt s (a : Int)) = 5) : Piece s a 5 := by
  have m := row_none s hs a ha (not_word s hs _ (by omega) (by omega))
  refine ⟨(4, 1, 0), Ev.congr (f := fun _ => some (4, 1, 0)) (fun k => rfl) (Ev.now _), by show (0 : Int) ≠ 43; omega, fun _ => ⟨by show (1 : Int) ≤ 4; omega, by show (4 : Int) ≤ 4; omega, by show (1 : Int) ≤ 1; omega, by show (a : Int) + 1 ≤ s.size; omega⟩, ?_⟩
  rw [if_pos rfl]
  refine m _ (Ev.step (f := fun k => sigilref4_one.j2 k s (a : Int) (bt s (a : Int)) false) (fun k => ?_) (Ev.step (f := fun k => (sigilref4_sign.f k (bt s (a : Int))).bind fun t => if t = true then some (4, (a : Int) + 1, 0) else some (0, 0, 40)) (fun k => ?_) (Ev.bind (sign_ev s (a : Int)) ?_)))
  · rw [j1_none s hs a (by omega) (by omega) k _, hc]; rfl
  · simp only [sigilref4_one.j2]; rw [if_neg Bool.false_ne_true, w64 (by omega) (by omega)]
  · rw [hc]; exact Ev.now _
theorem piece_bad (a : Nat) (ha : a < s.size) (c : Int) (hd : Ev (fun k => scan_disp k c (s.extract a s.size)) (0, 0, 40)) (hc : cls (bt s (a : Int)) ≠ 2 ∧ cls (bt s (a : Int)) ≠ 3 ∧ cls (bt s (a : Int)) ≠ 4 ∧ cls (bt s (a : Int)) ≠ 5) : Piece s a c := by
  have m := row_none s hs a ha (not_word s hs _ hc.1 hc.2.1)
  refine ⟨(0, 0, 40), hd, by show (40 : Int) ≠ 43; omega, fun h => absurd h (by show ¬ (40 : Int) = 0; omega), ?_⟩
  rw [if_neg (by show ¬ (40 : Int) = 0; omega)]
  refine m _ (Ev.step (f := fun k => sigilref4_one.j2 k s (a : Int) (bt s (a : Int)) false) (fun k => ?_) (Ev.step (f := fun k => (sigilref4_sign.f k (bt s (a : Int))).bind fun t => if t = true then some (4, (a : Int) + 1, 0) else some (0, 0, 40)) (fun k => ?_) (Ev.bind (sign_ev s (a : Int)) ?_)))
  · rw [j1_none s hs a hc.1 hc.2.1 k _, beq_eq_false_iff_ne.mpr hc.2.2.1]
  · simp only [sigilref4_one.j2]; rw [if_neg Bool.false_ne_true, w64 (by omega) (by omega)]
  · rw [beq_eq_false_iff_ne.mpr hc.2.2.2]; exact Ev.now _

/-- The document passes over what is no piece. -/
theorem skip_ref (l : List S40) (at_ at' : Int) (h : ∀ x, Ev (fun k => sigilref4_pass.l0 k s at') x → Ev (fun k => sigilref4_pass.l0 k s at_) x) (r : List S40 × Int × Int) (hr : Ev (fun k => sigilref4_Tokens.l0 k s l at') r) : Ev (fun k => sigilref4_Tokens.l0 k s l at_) r := by
  have hr0 := hr
  obtain ⟨K, hK⟩ := hr
  have h1 := hK (K + 1) (by omega)
  have hp : ∃ p, sigilref4_pass.f K s at' = some p := by
    simp only [sigilref4_Tokens.l0] at h1
    obtain ⟨p, hp, _⟩ := Option.bind_eq_some_iff.mp h1
    exact ⟨p, hp⟩
  obtain ⟨p, hp⟩ := hp
  have e1 : Ev (fun k => sigilref4_pass.l0 k s at') p := Ev.of (fun k => (sigilref4_pass.mono_l k).1 _ _) hp
  have e2 : Ev (fun k => sigilref4_pass.f k s at_) p := h p e1
  have e1' : Ev (fun k => sigilref4_pass.f k s at') p := e1
  have hx : ∃ K', ∀ k, K' ≤ k → sigilref4_Tokens.l0 k s l at_ = sigilref4_Tokens.l0 k s l at' := by
    obtain ⟨K1, q1⟩ := e1'
    obtain ⟨K2, q2⟩ := e2
    refine ⟨K1 + K2 + 1, fun k hk => ?_⟩
    obtain ⟨j, rfl⟩ : ∃ j, k = j + 1 := ⟨k - 1, by omega⟩
    have a1 : sigilref4_pass.f j s at' = some p := q1 j (by omega)
    have a2 : sigilref4_pass.f j s at_ = some p := q2 j (by omega)
    simp only [sigilref4_Tokens.l0]
    rw [a1, a2]
  obtain ⟨K', hx⟩ := hx
  exact ⟨K + K', fun k hk => (hx k (by omega)).trans (hK k (by omega))⟩

/-- The tokens from place a on. -/
theorem tokens_from (d : Nat) : ∀ (a : Nat) (l : List S40), a ≤ s.size → s.size - a ≤ d → l.length ≤ 16383 →
    ∃ r, Ev (fun k => scan_Tokens.l0 k s l (a : Int)) r ∧ Ev (fun k => sigilref4_Tokens.l0 k s l (a : Int)) r := by
  have fin : ∀ (a : Nat) (l : List S40), a = s.size → l.length ≤ 16383 → ∃ r, Ev (fun k => scan_Tokens.l0 k s l (a : Int)) r ∧ Ev (fun k => sigilref4_Tokens.l0 k s l (a : Int)) r := by
    intro a l ha hl
    refine ⟨(l ++ [(⟨5, (a : Int), (⟨#[]⟩ : ByteArray)⟩ : S40)], 0, 0), Ev.step (f := fun _ => some (l ++ [(⟨5, (a : Int), (⟨#[]⟩ : ByteArray)⟩ : S40)], 0, 0)) (fun k => ?_) (Ev.now _), Ev.step (f := fun k => (sigilref4_pass.f k s (a : Int)).bind fun bt188 => (if bt188.2 = true then (if bt188.1 = (s.size : Int) then (if l.length < 4398046511104 then (some ((l ++ [(⟨5, bt188.1, (⟨#[]⟩ : ByteArray)⟩ : S40)]), 0, 0)) else (none)) else (if (l.length : Int) = 16383 then (some (([] : List (S40)), bt188.1, 45)) else ((sigilref4_one.f k s bt188.1).bind fun bt193 => (if bt193.2.2 = 0 then (if 0 ≤ bt188.1 then (if bt188.1 ≤ bt193.2.1 then (if bt193.2.1 ≤ (s.size : Int) then (if l.length < 4398046511104 then (sigilref4_Tokens.l0 k s (l ++ [(⟨bt193.1, bt188.1, s.extract (bt188.1 : Int).toNat (bt193.2.1 : Int).toNat⟩ : S40)]) bt193.2.1) else (none)) else (none)) else (none)) else (none)) else (some (([] : List (S40)), bt188.1, bt193.2.2)))))) else (some (([] : List (S40)), bt188.1, 43)))) (fun k => rfl) (Ev.bind (a := ((a : Int), true)) ?_ ?_)⟩
    · simp only [scan_Tokens.l0]; rw [if_pos (by omega), if_pos (by omega)]
    · exact Ev.step (f := fun _ => some ((a : Int), true)) (fun k => by simp only [sigilref4_pass.f, sigilref4_pass.l0]; rw [if_neg (by omega)]) (Ev.now _)
    · simp only [if_true, if_pos (show (a : Int) = (s.size : Int) by omega), if_pos (show l.length < 4398046511104 by omega)]
      exact Ev.now _
  induction d with
  | zero => intro a l ha hd hl; exact fin a l (by omega) hl
  | succ d ih =>
    intro a l ha hd hl
    by_cases c : a = s.size
    · exact fin a l c hl
    have ha' : a < s.size := by omega
    have hcl := cls_range s (a : Int)
    have E1 : ∀ k, scan_Tokens.l0 (k + 1) s l (a : Int) = (scan_class.f k (bt s (a : Int))).bind fun c => ((scan_disp k c (s.extract a s.size)).bind fun p =>
      (if ¬ ((p.1 = 0 ∧ p.2.2 = 0) ∨ p.2.2 = 43) ∧ (l.length : Int) ≥ 16383 then some (([] : List S40), (a : Int), 45)
      else if p.2.2 ≠ 0 then some (([] : List S40), (a : Int), p.2.2)
      else if p.1 = 0 then scan_Tokens.l0 k s l (wrap64 ((a : Int) + p.2.1))
      else if (a : Int) ≤ wrap64 ((a : Int) + p.2.1) then (if wrap64 ((a : Int) + p.2.1) ≤ (s.size : Int) then (if l.length < 4398046511104 then scan_Tokens.l0 k s (l ++ [(⟨p.1, (a : Int), s.extract a (wrap64 ((a : Int) + p.2.1)).toNat⟩ : S40)]) (wrap64 ((a : Int) + p.2.1)) else none) else none) else none)) := by
      intro k
      simp only [scan_Tokens.l0]
      rw [if_neg (by omega), if_pos (by omega), if_pos (by omega)]
      rfl
    have E2 : ∀ p, Ev (fun k => scan_disp k (cls (bt s (a : Int))) (s.extract a s.size)) p → ∀ x, Ev (fun k => (if ¬ ((p.1 = 0 ∧ p.2.2 = 0) ∨ p.2.2 = 43) ∧ (l.length : Int) ≥ 16383 then some (([] : List S40), (a : Int), 45)
      else if p.2.2 ≠ 0 then some (([] : List S40), (a : Int), p.2.2)
      else if p.1 = 0 then scan_Tokens.l0 k s l (wrap64 ((a : Int) + p.2.1))
      else if (a : Int) ≤ wrap64 ((a : Int) + p.2.1) then (if wrap64 ((a : Int) + p.2.1) ≤ (s.size : Int) then (if l.length < 4398046511104 then scan_Tokens.l0 k s (l ++ [(⟨p.1, (a : Int), s.extract a (wrap64 ((a : Int) + p.2.1)).toNat⟩ : S40)]) (wrap64 ((a : Int) + p.2.1)) else none) else none) else none)) x → Ev (fun k => scan_Tokens.l0 k s l (a : Int)) x :=
      fun p hp x hx => Ev.step E1 (Ev.bind (class_ev s (a : Int)) (Ev.bind hp hx))
    have skip : ∀ n : Nat, 1 ≤ n → a + n ≤ s.size → Ev (fun k => scan_disp k (cls (bt s (a : Int))) (s.extract a s.size)) (0, (n : Int), 0) → (∀ x, Ev (fun k => sigilref4_pass.l0 k s ((a : Int) + n)) x → Ev (fun k => sigilref4_pass.l0 k s (a : Int)) x) →
        ∃ r, Ev (fun k => scan_Tokens.l0 k s l (a : Int)) r ∧ Ev (fun k => sigilref4_Tokens.l0 k s l (a : Int)) r := by
      intro n hn hn2 hp hx
      obtain ⟨r, h1, h2⟩ := ih (a + n) l hn2 (by omega) hl
      have en : ((a + n : Nat) : Int) = (a : Int) + n := by omega
      rw [en] at h1 h2
      refine ⟨r, E2 _ hp r ?_, skip_ref s hs l _ _ hx r h2⟩
      refine Ev.congr (f := fun k => scan_Tokens.l0 k s l ((a : Int) + n)) (fun k => ?_) h1
      rw [if_neg (fun h => h.1 (.inl ⟨rfl, rfl⟩)), if_neg (fun h => h rfl), if_pos rfl, w64 (by show _ ≤ (a : Int) + (n : Int); omega) (by show (a : Int) + (n : Int) ≤ _; omega)]
    have R1 : ∀ p : Int × Bool, Ev (fun k => sigilref4_pass.l0 k s (a : Int)) p → ∀ x, Ev (fun k => (if p.2 = true then (if p.1 = (s.size : Int) then (if l.length < 4398046511104 then (some ((l ++ [(⟨5, p.1, (⟨#[]⟩ : ByteArray)⟩ : S40)]), 0, 0)) else (none)) else (if (l.length : Int) = 16383 then (some (([] : List (S40)), p.1, 45)) else ((sigilref4_one.f k s p.1).bind fun bt193 => (if bt193.2.2 = 0 then (if 0 ≤ p.1 then (if p.1 ≤ bt193.2.1 then (if bt193.2.1 ≤ (s.size : Int) then (if l.length < 4398046511104 then (sigilref4_Tokens.l0 k s (l ++ [(⟨bt193.1, p.1, s.extract (p.1 : Int).toNat (bt193.2.1 : Int).toNat⟩ : S40)]) bt193.2.1) else (none)) else (none)) else (none)) else (none)) else (some (([] : List (S40)), p.1, bt193.2.2)))))) else (some (([] : List (S40)), p.1, 43)))) x → Ev (fun k => sigilref4_Tokens.l0 k s l (a : Int)) x :=
      fun p hp x hx => Ev.step (f := fun k => (sigilref4_pass.f k s (a : Int)).bind fun bt188 => (if bt188.2 = true then (if bt188.1 = (s.size : Int) then (if l.length < 4398046511104 then (some ((l ++ [(⟨5, bt188.1, (⟨#[]⟩ : ByteArray)⟩ : S40)]), 0, 0)) else (none)) else (if (l.length : Int) = 16383 then (some (([] : List (S40)), bt188.1, 45)) else ((sigilref4_one.f k s bt188.1).bind fun bt193 => (if bt193.2.2 = 0 then (if 0 ≤ bt188.1 then (if bt188.1 ≤ bt193.2.1 then (if bt193.2.1 ≤ (s.size : Int) then (if l.length < 4398046511104 then (sigilref4_Tokens.l0 k s (l ++ [(⟨bt193.1, bt188.1, s.extract (bt188.1 : Int).toNat (bt193.2.1 : Int).toNat⟩ : S40)]) bt193.2.1) else (none)) else (none)) else (none)) else (none)) else (some (([] : List (S40)), bt188.1, bt193.2.2)))))) else (some (([] : List (S40)), bt188.1, 43)))) (fun k => rfl) (Ev.bind hp hx)
    have piece : Piece s a (cls (bt s (a : Int))) → Ev (fun k => sigilref4_pass.l0 k s (a : Int)) ((a : Int), true) → ∃ r, Ev (fun k => scan_Tokens.l0 k s l (a : Int)) r ∧ Ev (fun k => sigilref4_Tokens.l0 k s l (a : Int)) r := by
      rintro ⟨p, hp, p43, p0, p1⟩ hpass
      have hne : ¬ (a : Int) = (s.size : Int) := by omega
      have hn0 : ¬ ((p.1 = 0 ∧ p.2.2 = 0) ∨ p.2.2 = 43) := by
        rintro (⟨h, h'⟩ | h)
        · have := p0 h'; omega
        · exact p43 h
      by_cases hfull : l.length = 16383
      · refine ⟨([], (a : Int), 45), E2 p hp _ ?_, R1 _ hpass _ ?_⟩
        · simp only [if_pos (show ¬ ((p.1 = 0 ∧ p.2.2 = 0) ∨ p.2.2 = 43) ∧ (l.length : Int) ≥ 16383 from ⟨hn0, by omega⟩)]
          exact Ev.now _
        · simp only [if_true, if_neg hne, if_pos (show (l.length : Int) = 16383 by omega)]
          exact Ev.now _
      · have hnf : ¬ (¬ ((p.1 = 0 ∧ p.2.2 = 0) ∨ p.2.2 = 43) ∧ (l.length : Int) ≥ 16383) := fun h => by have := h.2; omega
        by_cases he : p.2.2 = 0
        · obtain ⟨q1, _, q2, q3⟩ := p0 he
          obtain ⟨n, hn⟩ : ∃ n : Nat, p.2.1 = (n : Int) := ⟨p.2.1.toNat, by omega⟩
          have en : ((a + n : Nat) : Int) = (a : Int) + n := by omega
          obtain ⟨r, h1, h2⟩ := ih (a + n) (l ++ [(⟨p.1, (a : Int), s.extract a (a + n)⟩ : S40)]) (by omega) (by omega) (by rw [List.length_append]; simp; omega)
          refine ⟨r, E2 p hp r (Ev.congr (fun k => ?_) h1), R1 _ hpass r ?_⟩
          · rw [if_neg hnf, if_neg (fun h => h he), if_neg (by omega), hn, w64 (by omega) (by omega), ← en, if_pos (by omega), if_pos (by omega), if_pos (by omega), show (((a + n : Nat) : Int)).toNat = a + n by omega]
          · rw [if_pos he, hn] at p1
            simp only [if_true, if_neg hne, if_neg (show ¬ (l.length : Int) = 16383 by omega)]
            refine Ev.bind p1 ?_
            simp only [if_true]
            rw [← en]
            refine Ev.congr (fun k => ?_) h2
            rw [if_pos (by omega), if_pos (by omega), if_pos (by omega), if_pos (by omega), show (((a + n : Nat) : Int)).toNat = a + n by omega, show ((a : Int)).toNat = a by omega]
        · refine ⟨([], (a : Int), p.2.2), E2 p hp _ ?_, R1 _ hpass _ ?_⟩
          · simp only [if_neg hnf, if_pos he, ne_eq]
            exact Ev.now _
          · rw [if_neg he] at p1
            simp only [if_true, if_neg hne, if_neg (show ¬ (l.length : Int) = 16383 by omega)]
            refine Ev.bind p1 ?_
            simp only [if_neg he]
            exact Ev.now _
    by_cases c1 : cls (bt s (a : Int)) = 1
    · refine skip 1 (by omega) (by omega) ?_ (fun x hx => pass_blank s hs a ha' c1 x hx)
      rw [c1]; exact Ev.congr (f := fun _ => some (0, 1, 0)) (fun k => rfl) (Ev.now _)
    by_cases c6 : cls (bt s (a : Int)) = 6
    · have h47 := hcl.2.2.1 c6
      rcases comment_both s hs a ha' h47 _ rfl with ⟨n, n1, n2, n3, n4⟩ | ⟨n1, n2⟩ | ⟨n1, n2⟩
      · refine skip n n1 n2 ?_ n4
        rw [c6]; exact Ev.congr (f := fun _ => scan_comment.f (s.extract a s.size)) (fun k => rfl) (Ev.const n3)
      · have hp : Ev (fun k => scan_disp k (cls (bt s (a : Int))) (s.extract a s.size)) (0, 0, 43) := by
          rw [c6]; exact Ev.congr (f := fun _ => scan_comment.f (s.extract a s.size)) (fun k => rfl) (Ev.const n1)
        refine ⟨([], (a : Int), 43), E2 _ hp _ ?_, R1 _ n2 _ (Ev.now _)⟩
        refine Ev.some' _ (fun k => ?_)
        rw [if_neg (fun h => h.1 (.inr rfl)), if_pos (by show ¬ (43 : Int) = 0; omega)]
      · refine piece (piece_bad s hs a ha' _ ?_ ⟨by omega, by omega, by omega, by omega⟩) n2
        rw [c6]; exact Ev.congr (f := fun _ => scan_comment.f (s.extract a s.size)) (fun k => rfl) (Ev.const n1)
    have hne47 : ¬ bt s (a : Int) = 47 := fun h => c6 (hcl.2.2.2 h)
    have hpass : Ev (fun k => sigilref4_pass.l0 k s (a : Int)) ((a : Int), true) :=
      pass_step s hs a ha' c1 _ (fun h => absurd h.2.1 hne47) (fun h => absurd h.2.1 hne47) (fun _ => rfl)
    refine piece ?_ hpass
    by_cases c2 : cls (bt s (a : Int)) = 2
    · rw [c2]; exact piece_name s hs a ha' c2
    by_cases c3 : cls (bt s (a : Int)) = 3
    · rw [c3]; exact piece_number s hs a ha' c3
    by_cases c4 : cls (bt s (a : Int)) = 4
    · rw [c4]; exact piece_text s hs a ha' c4
    by_cases c5 : cls (bt s (a : Int)) = 5
    · rw [c5]; exact piece_sign s hs a ha' c5
    have c0 : cls (bt s (a : Int)) = 0 := by omega
    refine piece_bad s hs a ha' _ ?_ ⟨c2, c3, c4, c5⟩
    rw [c0]; exact Ev.congr (f := fun _ => some (0, 0, 40)) (fun k => rfl) (Ev.now _)
end

/-- Tokens, both, for every text. -/
theorem tokens_both (s : ByteArray) : ∃ r, Ev (fun k => scan_Tokens.f k s) r ∧ Ev (fun k => sigilref4_Tokens.f k s) r := by
  by_cases c : (s.size : Int) > 65536
  · exact ⟨([], 0, 2), Ev.some' _ (fun k => by simp only [scan_Tokens.f]; rw [if_pos c]), Ev.some' _ (fun k => by simp only [sigilref4_Tokens.f]; rw [if_pos c])⟩
  obtain ⟨u, hu1, hu2, _⟩ := utf8_both s (by omega)
  have e1 : ∀ k, scan_Tokens.f k s = (wire_Utf8.f k s).bind fun t => if t ≥ 0 then some (([] : List S40), t, 44) else scan_Tokens.l0 k s ([] : List S40) 0 := by
    intro k; simp only [scan_Tokens.f]; rw [if_neg c]
  have e2 : ∀ k, sigilref4_Tokens.f k s = (sigilref4_Utf8.f k s).bind fun t => if t ≥ 0 then some (([] : List S40), t, 44) else sigilref4_Tokens.l0 k s ([] : List S40) 0 := by
    intro k; simp only [sigilref4_Tokens.f]; rw [if_neg c]
  by_cases hu : u ≥ 0
  · refine ⟨([], u, 44), Ev.congr e1 (Ev.bind hu1 ?_), Ev.congr e2 (Ev.bind hu2 ?_)⟩ <;> simp only [if_pos hu] <;> exact Ev.now _
  · obtain ⟨r, h1, h2⟩ := tokens_from s (by omega) s.size 0 [] (by omega) (by omega) (by simp)
    refine ⟨r, Ev.congr e1 (Ev.bind hu1 ?_), Ev.congr e2 (Ev.bind hu2 ?_)⟩
    · simp only [if_neg hu]; exact h1
    · simp only [if_neg hu]; exact h2
/-- A list of tokens is the same as itself. -/
theorem same_from (l : List S40) (hl : l.length ≤ 140737488355328) (d : Nat) : ∀ i : Int, 0 ≤ i → i ≤ l.length → (l.length : Int) - i = d → Ev (fun k => sigillaw4_SameTokens.l0 k l l i) true := by
  induction d with
  | zero =>
    intro i h0 h1 hd
    exact Ev.step (f := fun _ => some true) (fun k => by simp only [sigillaw4_SameTokens.l0]; rw [if_neg (by omega)]) (Ev.now _)
  | succ d ih =>
    intro i h0 h1 hd
    refine Ev.step (f := fun k => sigillaw4_SameTokens.l0 k l l (i + 1)) (fun k => ?_) (ih (i + 1) (by omega) (by omega) (by omega))
    simp only [sigillaw4_SameTokens.l0]
    rw [if_pos (by omega), if_pos h0, if_pos (by omega), w64 (by omega) (by omega)]
    simp
theorem same_self (l : List S40) (hl : l.length ≤ 140737488355328) : Ev (fun k => sigillaw4_SameTokens.f k l l) true :=
  Ev.congr (f := fun k => sigillaw4_SameTokens.l0 k l l 0) (fun k => by simp only [sigillaw4_SameTokens.f, if_true]) (same_from l hl l.length 0 (by omega) (by omega) (by omega))
theorem tokens_len_l (s : ByteArray) : ∀ (k : Nat) (l : List S40) (at_ : Int) (r : List S40 × Int × Int), scan_Tokens.l0 k s l at_ = some r → r.1.length ≤ 4398046511104 := by
  intro k
  induction k with
  | zero => intro l at_ r h; cases h
  | succ k ih =>
    intro l at_ r h
    simp only [scan_Tokens.l0] at h
    by_cases c : at_ = (s.size : Int)
    · rw [if_pos c] at h
      by_cases c2 : l.length < 4398046511104
      · rw [if_pos c2] at h
        obtain rfl := Option.some.inj h
        rw [List.length_append]; simp; omega
      · rw [if_neg c2] at h; cases h
    · rw [if_neg c] at h
      by_cases c2 : 0 ≤ at_
      · rw [if_pos c2] at h
        by_cases c3 : at_ < (s.size : Int)
        · rw [if_pos c3] at h
          obtain ⟨c, _, h⟩ := Option.bind_eq_some_iff.mp h
          obtain ⟨p, _, h⟩ := Option.bind_eq_some_iff.mp h
          repeat' split at h
          all_goals first | (cases h; done) | (obtain rfl := Option.some.inj h; simp; done) | exact ih _ _ _ h
        · rw [if_neg c3] at h; cases h
      · rw [if_neg c2] at h; cases h
theorem tokens_len (s : ByteArray) (r : List S40 × Int × Int) (h : Ev (fun k => scan_Tokens.f k s) r) : r.1.length ≤ 4398046511104 := by
  obtain ⟨K, h⟩ := h
  have h := h K (Nat.le_refl _)
  simp only [scan_Tokens.f] at h
  by_cases c : (s.size : Int) > 65536
  · rw [if_pos c] at h
    obtain rfl := Option.some.inj h
    simp
  · rw [if_neg c] at h
    obtain ⟨t, _, h⟩ := Option.bind_eq_some_iff.mp h
    by_cases c2 : t ≥ 0
    · rw [if_pos c2] at h
      obtain rfl := Option.some.inj h
      simp
    · rw [if_neg c2] at h
      exact tokens_len_l s _ _ _ _ h
theorem scanned (s : ByteArray) : Ev (fun k => sigillaw4_scanned.f k s) true := by
  obtain ⟨r, h1, h2⟩ := tokens_both s
  have hl := tokens_len s r h1
  refine Ev.congr (f := fun k => (scan_Tokens.f k s).bind fun bt199 => ((sigilref4_Tokens.f k s).bind fun bt204 => (if bt199.2.2 = bt204.2.2 then (if bt199.2.1 = bt204.2.1 then ((sigillaw4_SameTokens.f k bt199.1 bt204.1).bind fun t209 => (some t209)) else (some false)) else (some false)))) (fun k => rfl) (Ev.bind h1 (Ev.bind h2 ?_))
  simp only [if_true]
  exact Ev.bind (same_self r.1 (by omega)) (Ev.now _)
set_option maxRecDepth 100000 in
theorem head_ok : sigillaw4_head.f 30 = some true := by decide +kernel
theorem head_ev : Ev (fun k => sigillaw4_head.f k) true := Ev.of sigillaw4_head.mono head_ok
end Go.Proofs.YtabgnbbljjohdaaRDoor.Toks
