/- Plain laws on UTF-8 read anew: a piece of a text that is UTF-8, which begins at a character and ends behind an ASCII byte, is UTF-8 wherever it stands. No condition but the texts' sizes. -/
import Derived.Test.YtabgnbbljjohdaaRDoorRelex
namespace Go.Proofs.YtabgnbbljjohdaaRDoor.Relex
open Go.RowKit Go.Proofs.YtabgnbbljjohdaaRDoor.A Go.Proofs.YtabgnbbljjohdaaRDoorW.PrintWords Go.Proofs.YtabgnbbljjohdaaRDoor.U Go.Proofs.YtabgnbbljjohdaaRDoor.Scan1 Go.Proofs.YtabgnbbljjohdaaRDoor.Utf8 Go.Proofs.YtabgnbbljjohdaaRDoor.Unq Go.Proofs.YtabgnbbljjohdaaRDoor.Worth Go.Proofs.YtabgnbbljjohdaaRDoor.Toks

theorem wlo2_cont (i : Int) (h : 1 ≤ wmore i) : 128 ≤ wlo2 i := by
  unfold wmore wire_row at h
  unfold wlo2 wire_row
  rcases (show i.toNat = 0 ∨ i.toNat = 1 ∨ i.toNat = 2 ∨ i.toNat = 3 ∨ i.toNat = 4 ∨ i.toNat = 5 ∨ i.toNat = 6 ∨ i.toNat = 7 ∨ i.toNat = 8 ∨ 9 ≤ i.toNat by omega) with e | e | e | e | e | e | e | e | e | e
  all_goals first | (rw [e] at h ⊢; revert h; decide) | skip
  rw [List.getD_eq_getElem?_getD, List.getElem?_eq_none (by simpa [RowTab] using e)] at h
  exact absurd h (by decide)
theorem wl1 (s t : ByteArray) (hs : s.size ≤ 140737488355328) (ht : t.size ≤ 140737488355328) (a b : Nat) (ha : a ≤ s.size) (i : Int) : ∀ (k : Nat) (j n : Int), 1 ≤ j → wire_character.l1 k s (a : Int) i j = some n → n ≠ 0 →
    n = 1 + wmore i ∧ (∀ q : Int, j ≤ q → q < n → 128 ≤ bt s ((a : Int) + q)) ∧ ((∀ q : Int, 0 ≤ q → q < n → bt s ((a : Int) + q) = bt t ((b : Int) + q)) → (b : Int) + n ≤ (t.size : Int) → wire_character.l1 k t (b : Int) i j = some n) := by
  have hm := wmore_range i
  intro k
  induction k with
  | zero => intro j n _ h; simp [wire_character.l1] at h
  | succ k ih =>
    intro j n hj h hn
    simp only [wire_character.l1] at h ⊢
    by_cases c1 : j ≤ wmore i
    · rw [if_pos c1, w64 (n := (a : Int) + j) (by omega) (by omega), w64 (n := j + 1) (by omega) (by omega), if_pos (show (0 : Int) ≤ (a : Int) + j by omega)] at h
      by_cases c2 : (a : Int) + j < (s.size : Int)
      · rw [if_pos c2] at h
        by_cases c3 : bt s ((a : Int) + j) < (if j = 1 then wlo2 i else 128)
        · rw [if_pos c3] at h
          exact absurd (Option.some.inj h).symm hn
        · rw [if_neg c3] at h
          by_cases c4 : bt s ((a : Int) + j) > (if j = 1 then whi2 i else 191)
          · rw [if_pos c4] at h
            exact absurd (Option.some.inj h).symm hn
          · rw [if_neg c4] at h
            obtain ⟨g1, g2, g3⟩ := ih _ _ (by omega) h hn
            refine ⟨g1, fun q h1 h2 => ?_, fun hag hb => ?_⟩
            · by_cases e : q = j
              · subst e
                have := wlo2_cont i (by omega)
                split at c3 <;> omega
              · exact g2 q (by omega) h2
            · rw [if_pos c1, w64 (n := (b : Int) + j) (by omega) (by omega), w64 (n := j + 1) (by omega) (by omega), if_pos (show (0 : Int) ≤ (b : Int) + j by omega), if_pos (show (b : Int) + j < (t.size : Int) by omega), ← hag j (by omega) (by omega), if_neg c3, if_neg c4]
              exact g3 hag hb
      · rw [if_neg c2] at h
        cases h
    · rw [if_neg c1] at h
      have e := Option.some.inj h
      refine ⟨e.symm, fun q h1 h2 => by exfalso; omega, fun _ _ => ?_⟩
      rw [if_neg c1]
      exact h
theorem wl0 (s t : ByteArray) (hs : s.size ≤ 140737488355328) (ht : t.size ≤ 140737488355328) (a b : Nat) (ha : a ≤ s.size) : ∀ (k : Nat) (i n : Int), 0 ≤ i → wire_character.l0 k s (a : Int) i = some n → n ≠ 0 →
    (1 ≤ n ∧ n ≤ 4) ∧ (∀ q : Int, 1 ≤ q → q < n → 128 ≤ bt s ((a : Int) + q)) ∧ ((∀ q : Int, 0 ≤ q → q < n → bt s ((a : Int) + q) = bt t ((b : Int) + q)) → (b : Int) + n ≤ (t.size : Int) → wire_character.l0 k t (b : Int) i = some n) := by
  intro k
  induction k with
  | zero => intro i n _ h; simp [wire_character.l0] at h
  | succ k ih =>
    intro i n hi h hn
    simp only [wire_character.l0] at h ⊢
    by_cases c1 : i < 9
    · rw [if_pos c1, if_pos (show (0 : Int) ≤ (a : Int) by omega), w64 (n := i + 1) (by omega) (by omega)] at h
      by_cases c2 : (a : Int) < (s.size : Int)
      · rw [if_pos c2] at h
        have same : 1 ≤ n → (∀ q : Int, 0 ≤ q → q < n → bt s ((a : Int) + q) = bt t ((b : Int) + q)) → bt s (a : Int) = bt t (b : Int) := by
          intro h1 hag
          have := hag 0 (by omega) (by omega)
          simpa using this
        by_cases c3 : bt s (a : Int) < wlo i
        · rw [if_pos c3] at h
          obtain ⟨g1, g2, g3⟩ := ih _ _ (by omega) h hn
          refine ⟨g1, g2, fun hag hb => ?_⟩
          rw [if_pos c1, if_pos (show (0 : Int) ≤ (b : Int) by omega), if_pos (show (b : Int) < (t.size : Int) by omega), ← same g1.1 hag, if_pos c3, w64 (n := i + 1) (by omega) (by omega)]
          exact g3 hag hb
        · rw [if_neg c3] at h
          by_cases c4 : bt s (a : Int) > whi i
          · rw [if_pos c4] at h
            obtain ⟨g1, g2, g3⟩ := ih _ _ (by omega) h hn
            refine ⟨g1, g2, fun hag hb => ?_⟩
            rw [if_pos c1, if_pos (show (0 : Int) ≤ (b : Int) by omega), if_pos (show (b : Int) < (t.size : Int) by omega), ← same g1.1 hag, if_neg c3, if_pos c4, w64 (n := i + 1) (by omega) (by omega)]
            exact g3 hag hb
          · rw [if_neg c4] at h
            have hm := wmore_range i
            rw [w64 (n := (a : Int) + wmore i) (by omega) (by omega)] at h
            by_cases c5 : (a : Int) + wmore i ≥ (s.size : Int)
            · rw [if_pos c5] at h
              exact absurd (Option.some.inj h).symm hn
            · rw [if_neg c5] at h
              obtain ⟨g1, g2, g3⟩ := wl1 s t hs ht a b ha i k 1 n (by omega) h hn
              refine ⟨by omega, g2, fun hag hb => ?_⟩
              rw [if_pos c1, if_pos (show (0 : Int) ≤ (b : Int) by omega), if_pos (show (b : Int) < (t.size : Int) by omega), ← same (by omega) hag, if_neg c3, if_neg c4, w64 (n := (b : Int) + wmore i) (by omega) (by omega), if_neg (by omega)]
              exact g3 hag hb
      · rw [if_neg c2] at h
        cases h
    · rw [if_neg c1] at h
      exact absurd (Option.some.inj h).symm hn
theorem chr_same {s t : ByteArray} (hs : s.size ≤ 140737488355328) (ht : t.size ≤ 140737488355328) {a b : Nat} (ha : a ≤ s.size) {n : Int} (h : Ev (fun k => wire_character.f k s (a : Int)) n) (hn : n ≠ 0) :
    (∀ q : Int, 1 ≤ q → q < n → 128 ≤ bt s ((a : Int) + q)) ∧ ((∀ q : Int, 0 ≤ q → q < n → bt s ((a : Int) + q) = bt t ((b : Int) + q)) → (b : Int) + n ≤ (t.size : Int) → Ev (fun k => wire_character.f k t (b : Int)) n) := by
  obtain ⟨K, hK⟩ := h
  have h := fun k hk => wl0 s t hs ht a b ha k 0 n (by omega) (hK k hk) hn
  exact ⟨(h K (Nat.le_refl _)).2.1, fun hag hb => ⟨K, fun k hk => (h k hk).2.2 hag hb⟩⟩

/-- UTF-8 from place a on. -/
def U8 (s : ByteArray) (a : Nat) : Prop := Ev (fun k => wire_Utf8.l0 k s (a : Int)) (-1)
theorem U8.done (s : ByteArray) : U8 s s.size := Ev.step (f := fun _ => some (-1)) (fun k => by simp only [wire_Utf8.l0]; rw [if_neg (by omega)]) (Ev.now _)
theorem U8.prev {s : ByteArray} (hs : s.size ≤ 140737488355328) {a n : Nat} (ha : a < s.size) (hn : 1 ≤ n) (hn2 : a + n ≤ s.size) (h : Ev (fun k => wire_character.f k s (a : Int)) (n : Int)) (hU : U8 s (a + n)) : U8 s a := by
  refine Ev.step (f := fun k => (wire_character.f k s (a : Int)).bind fun t => if t = 0 then some (a : Int) else wire_Utf8.l0 k s (wrap64 ((a : Int) + t))) (fun k => ?_) (Ev.bind h ?_)
  · simp only [wire_Utf8.l0]; rw [if_pos (by omega)]
  · simp only [if_neg (show ¬ (n : Int) = 0 by omega)]
    rw [w64 (n := (a : Int) + n) (by omega) (by omega), show (a : Int) + n = ((a + n : Nat) : Int) by omega]
    exact hU
theorem U8.next {s : ByteArray} (hs : s.size ≤ 140737488355328) {a : Nat} (ha : a < s.size) (hU : U8 s a) : ∃ n : Nat, 1 ≤ n ∧ n ≤ 4 ∧ a + n ≤ s.size ∧ Ev (fun k => wire_character.f k s (a : Int)) (n : Int) ∧ U8 s (a + n) ∧ (n = 1 ↔ bt s (a : Int) < 128) := by
  obtain ⟨r, hr, _, h3, h4⟩ := chr_both s hs (a : Int) (by omega) (by omega)
  have e1 : ∀ k, wire_Utf8.l0 (k + 1) s (a : Int) = (wire_character.f k s (a : Int)).bind fun t => if t = 0 then some (a : Int) else wire_Utf8.l0 k s (wrap64 ((a : Int) + t)) := by
    intro k; simp only [wire_Utf8.l0]; rw [if_pos (by omega)]
  by_cases z : r = 0
  · exfalso
    have : Ev (fun k => wire_Utf8.l0 k s (a : Int)) (a : Int) := by
      refine Ev.step e1 (Ev.bind hr ?_)
      simp only [if_pos z]; exact Ev.now _
    have := Ev.unique hU this
    omega
  · obtain ⟨n, rfl⟩ : ∃ n : Nat, r = (n : Int) := ⟨r.toNat, by omega⟩
    refine ⟨n, by omega, by omega, by omega, hr, ?_, by omega⟩
    obtain ⟨q, hq, _, _⟩ := utf8_from s hs s.size ((a + n : Nat) : Int) (by omega) (by omega) (by omega)
    have : Ev (fun k => wire_Utf8.l0 k s (a : Int)) q := by
      refine Ev.step e1 (Ev.bind hr ?_)
      simp only [if_neg z]
      rw [w64 (n := (a : Int) + n) (by omega) (by omega), show (a : Int) + n = ((a + n : Nat) : Int) by omega]
      exact hq
    obtain rfl := Ev.unique hU this
    exact hq
theorem U8.ascii {s : ByteArray} (hs : s.size ≤ 140737488355328) {a : Nat} (ha : a < s.size) (hb : bt s (a : Int) < 128) (hU : U8 s (a + 1)) : U8 s a := by
  obtain ⟨r, hr, _, _, h4⟩ := chr_both s hs (a : Int) (by omega) (by omega)
  obtain rfl := h4.2 hb
  exact U8.prev hs ha (Nat.le_refl 1) (by omega) hr hU
/-- A byte below 128 begins a character. -/
theorem U8.bound {s : ByteArray} (hs : s.size ≤ 140737488355328) {p : Nat} (hp : p < s.size) (hb : bt s (p : Int) < 128) (d : Nat) : ∀ a : Nat, a ≤ p → p - a ≤ d → U8 s a → U8 s p := by
  induction d with
  | zero =>
    intro a ha hd h
    obtain rfl : a = p := by omega
    exact h
  | succ d ih =>
    intro a ha hd h
    by_cases e : a = p
    · exact e ▸ h
    obtain ⟨n, n1, _, n3, n4, n5, _⟩ := U8.next hs (by omega) h
    by_cases c : a + n ≤ p
    · exact ih (a + n) c (by omega) n5
    · exfalso
      have := (chr_same (b := 0) hs hs (by omega) n4 (by omega)).1 ((p : Int) - a) (by omega) (by omega)
      rw [show (a : Int) + ((p : Int) - a) = p by omega] at this
      omega
theorem U8.carry {s t : ByteArray} (hs : s.size ≤ 140737488355328) (ht : t.size ≤ 140737488355328) (d : Nat) : ∀ n a b : Nat, n ≤ d → U8 s a → a + n ≤ s.size → (1 ≤ n → bt s ((a : Int) + n - 1) < 128) → (∀ q : Int, 0 ≤ q → q < n → bt s ((a : Int) + q) = bt t ((b : Int) + q)) → b + n ≤ t.size → U8 t (b + n) → U8 t b := by
  induction d with
  | zero =>
    intro n a b hd _ _ _ _ _ hU
    obtain rfl : n = 0 := by omega
    exact hU
  | succ d ih =>
    intro n a b hd hU ha hlast hag hb hT
    by_cases z : n = 0
    · subst z; exact hT
    obtain ⟨m, m1, m2, m3, m4, m5, m6⟩ := U8.next hs (by omega) hU
    have hl := hlast (by omega)
    obtain ⟨g1, g2⟩ := chr_same (t := t) (b := b) hs ht (by omega) m4 (by omega)
    by_cases c : m ≤ n
    · have g3 := g2 (fun q h0 h1 => hag q h0 (by omega)) (by omega)
      refine U8.prev ht (by omega) m1 (by omega) g3 (ih (n - m) (a + m) (b + m) (by omega) m5 (by omega) (fun _ => ?_) (fun q h0 h1 => ?_) (by omega) ?_)
      · rw [show ((a + m : Nat) : Int) + ((n - m : Nat) : Int) - 1 = (a : Int) + n - 1 by omega]
        exact hl
      · have := hag ((m : Int) + q) (by omega) (by omega)
        rw [show ((a + m : Nat) : Int) + q = (a : Int) + ((m : Int) + q) by omega, show ((b + m : Nat) : Int) + q = (b : Int) + ((m : Int) + q) by omega]
        exact this
      · rw [show b + m + (n - m) = b + n by omega]
        exact hT
    · exfalso
      by_cases c1 : n = 1
      · subst c1
        have := m6.2 (by rw [show (a : Int) = (a : Int) + ((1 : Nat) : Int) - 1 by omega]; exact hl)
        omega
      · have := g1 ((n : Int) - 1) (by omega) (by omega)
        rw [show (a : Int) + ((n : Int) - 1) = (a : Int) + n - 1 by omega] at this
        omega
end Go.Proofs.YtabgnbbljjohdaaRDoor.Relex
