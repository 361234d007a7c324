/- Plain laws of Quote: scan.Quote writes what the document's Quote writes, for every text; what it writes is read back as the text, one token. No condition but the text's size. -/
import Derived.Test.YtabgnbbljjohdaaRDoorRelex2
import Derived.Test.YtabgnbbljjohdaaRDoorAxQ
namespace Go.Proofs.YtabgnbbljjohdaaRDoor.Quot
open Go.RowKit Go.Proofs.YtabgnbbljjohdaaRDoor.A Go.Proofs.YtabgnbbljjohdaaRDoorW.PrintWords Go.Proofs.YtabgnbbljjohdaaRDoor.U Go.Proofs.YtabgnbbljjohdaaRDoor.Scan1 Go.Proofs.YtabgnbbljjohdaaRDoor.Utf8 Go.Proofs.YtabgnbbljjohdaaRDoor.Unq Go.Proofs.YtabgnbbljjohdaaRDoor.Toks Go.Proofs.YtabgnbbljjohdaaRDoor.Relex

def u8 (n : Int) : UInt8 := UInt8.ofNat n.toNat
theorem bytes_u8 (s : ByteArray) : (bytesOf s).map u8 = s.data.toList := by
  unfold bytesOf
  rw [List.map_map]
  conv => rhs; rw [← List.map_id s.data.toList]
  apply List.map_congr_left
  intro b _
  simp [u8]
theorem sub_sub (s : ByteArray) (a j : Nat) (h : a + j ≤ s.size) : (s.extract a s.size).extract j (s.extract a s.size).size = s.extract (a + j) s.size := by
  have hsz := size_extract s a s.size (Nat.le_refl _)
  have e1 := size_extract (s.extract a s.size) j (s.extract a s.size).size (Nat.le_refl _)
  have e2 := size_extract s (a + j) s.size (Nat.le_refl _)
  refine ext_bt (by omega) (fun i h0 h1 => ?_)
  rw [bt_extract (s.extract a s.size) j (s.extract a s.size).size (Nat.le_refl _) i h0 (by omega), bt_extract s a s.size (Nat.le_refl _) _ (by omega) (by omega), bt_extract s (a + j) s.size (Nat.le_refl _) i h0 (by omega)]
  congr 1; omega
theorem sub_front (s : ByteArray) (a n : Nat) (h : a + n ≤ s.size) : (s.extract a s.size).extract 0 n = s.extract a (a + n) := by
  have hsz := size_extract s a s.size (Nat.le_refl _)
  have e1 := size_extract (s.extract a s.size) 0 n (by omega)
  have e2 := size_extract s a (a + n) h
  refine ext_bt (by omega) (fun i h0 h1 => ?_)
  rw [bt_extract (s.extract a s.size) 0 n (by omega) i h0 (by omega), bt_extract s a s.size (Nat.le_refl _) _ (by omega) (by omega), bt_extract s a (a + n) h i h0 (by omega)]
  congr 1; omega
theorem sub_all (s : ByteArray) : s.extract 0 s.size = s := by
  have e1 := size_extract s 0 s.size (Nat.le_refl _)
  refine ext_bt (by omega) (fun i h0 h1 => ?_)
  rw [bt_extract s 0 s.size (Nat.le_refl _) i h0 (by omega)]
  congr 1; omega

/-- What Utf8 says of the first m bytes, the first byte being none below 128. -/
theorem front_utf8 (T : ByteArray) (hT : T.size ≤ 140737488355328) (h0 : 0 < T.size) (r : Int) (hr : Ev (fun k => wire_character.f k T 0) r) (hr2 : r = 0 ∨ 1 ≤ r ∧ r ≤ 4 ∧ r ≤ (T.size : Int)) (m : Nat) (hm : 2 ≤ m) (hm2 : m ≤ T.size) (hmr : r = 0 ∨ (m : Int) ≤ r) :
    ∃ u : Int, Ev (fun k => wire_Utf8.f k (T.extract 0 m)) u ∧ (u < 0 ↔ (m : Int) = r) := by
  have hV := size_extract T 0 m hm2
  have hVb : ∀ j : Int, 0 ≤ j → j < (m : Int) → bt (T.extract 0 m) j = bt T j := by
    intro j j0 j1
    rw [bt_extract T 0 m hm2 j j0 (by omega)]
    congr 1; omega
  by_cases c : (m : Int) = r
  · subst c
    refine ⟨-1, ?_, by omega⟩
    have g := (chr_same (a := 0) (b := 0) (s := T) (t := T.extract 0 m) hT (by omega) (by omega) hr (by omega)).2 (fun q q0 q1 => by
      rw [show ((0 : Nat) : Int) + q = q by omega]
      exact (hVb q q0 q1).symm) (by omega)
    have hd := U8.done (T.extract 0 m)
    have := U8.prev (s := T.extract 0 m) (by omega) (a := 0) (n := m) (by omega) (by omega) (by omega) g (by rw [show 0 + m = (T.extract 0 m).size by omega]; exact hd)
    exact this
  · obtain ⟨q, q1, _, q3, q4⟩ := chr_both (T.extract 0 m) (by omega) 0 (by omega) (by omega)
    have qz : q = 0 := by
      by_cases z : q = 0
      · exact z
      · exfalso
        have g := (chr_same (a := 0) (b := 0) (s := T.extract 0 m) (t := T) (by omega) hT (by omega) q1 z).2 (fun x x0 x1 => by
          rw [show ((0 : Nat) : Int) + x = x by omega]
          exact hVb x x0 (by omega)) (by omega)
        have e : q = r := Ev.unique g hr
        omega
    subst qz
    refine ⟨0, ?_, by omega⟩
    refine Ev.step (f := fun k => (wire_character.f k (T.extract 0 m) 0).bind fun t => if t = 0 then some (0 : Int) else wire_Utf8.l0 k (T.extract 0 m) (wrap64 (0 + t))) (fun k => ?_) (Ev.bind q1 ?_)
    · simp only [wire_Utf8.f, wire_Utf8.l0]
      rw [if_pos (by omega)]
    · simp only [if_true]; exact Ev.now _
theorem character_from (T : ByteArray) (hT : T.size ≤ 140737488355328) (h0 : 0 < T.size) (r : Int) (hr : Ev (fun k => wire_character.f k T 0) r) (hr2 : r = 0 ∨ 2 ≤ r ∧ r ≤ 4 ∧ r ≤ (T.size : Int)) (d : Nat) : ∀ m : Nat, 2 ≤ m → 5 - m ≤ d → (r = 0 ∨ (m : Int) ≤ r) → Ev (fun k => scan_character.l0 k T (m : Int)) r := by
  have stop : ∀ m : Nat, (m : Int) > 4 ∨ ¬ (m : Int) ≤ (T.size : Int) → r = 0 → Ev (fun k => scan_character.l0 k T (m : Int)) r := by
    intro m h hz
    have e1 : ∀ k, scan_character.l0 (k + 1) T (m : Int) = scan_character.j1 k T (m : Int) false := by
      intro k; simp only [scan_character.l0]
      by_cases c : (m : Int) ≤ 4
      · rw [if_pos c, decide_eq_false (by omega)]
      · rw [if_neg c]
    refine Ev.step e1 (Ev.step (f := fun _ => some 0) (fun k => by simp only [scan_character.j1]; rw [if_neg Bool.false_ne_true]) ?_)
    rw [hz]; exact Ev.now _
  induction d with
  | zero => intro m hm hd hmr; exact stop m (by omega) (by omega)
  | succ d ih =>
    intro m hm hd hmr
    by_cases c4 : (m : Int) ≤ 4
    · by_cases cs : m ≤ T.size
      · obtain ⟨u, u1, u2⟩ := front_utf8 T hT h0 r hr (by omega) m hm cs hmr
        refine Ev.step (f := fun k => scan_character.j1 k T (m : Int) true) (fun k => by simp only [scan_character.l0]; rw [if_pos c4, decide_eq_true (by omega)]) (Ev.step (f := fun k => (wire_Utf8.f k (T.extract 0 m)).bind fun t213 => (if t213 < 0 then (some (m : Int)) else (scan_character.l0 k T (wrap64 ((m : Int) + 1))))) (fun k => ?_) (Ev.bind u1 ?_))
        · simp only [scan_character.j1]
          rw [if_pos trivial, if_pos (by omega), if_pos (by omega), show ((m : Int)).toNat = m by omega]
        · by_cases cu : u < 0
          · simp only [if_pos cu]
            rw [u2.1 cu]
            exact Ev.now _
          · simp only [if_neg cu]
            have hne : ¬ (m : Int) = r := fun e => cu (u2.2 e)
            rw [w64 (by omega) (by omega), show (m : Int) + 1 = ((m + 1 : Nat) : Int) by omega]
            exact ih (m + 1) (by omega) (by omega) (by omega)
      · exact stop m (.inr (by omega)) (by omega)
    · exact stop m (.inl (by omega)) (by omega)
theorem character_ev (T : ByteArray) (hT : T.size ≤ 140737488355328) (h0 : 0 < T.size) (r : Int) (hr : Ev (fun k => wire_character.f k T 0) r) (hr2 : r = 0 ∨ 2 ≤ r ∧ r ≤ 4 ∧ r ≤ (T.size : Int)) : Ev (fun k => scan_character.f k T) r :=
  character_from T hT h0 r hr hr2 3 2 (by omega) (by omega) (by omega)

/-- A byte that Quote writes by a letter. -/
def letterOf (c : Int) : UInt8 := if c = 92 then 92 else if c = 34 then 34 else if c = 10 then 110 else if c = 13 then 114 else 116
def special (c : Int) : Bool := c == 92 || c == 34 || c == 10 || c == 13 || c == 9
theorem written_special (c : Int) (h : special c = true) : scan_written.f c = some ⟨#[92, letterOf c]⟩ := by
  simp only [special, Bool.or_eq_true, beq_iff_eq] at h
  rcases h with (((h | h) | h) | h) | h <;> subst h <;> rfl
theorem written_plain (c : Int) (h : special c = false) : scan_written.f c = some ⟨#[]⟩ := by
  simp only [special, Bool.or_eq_false_iff, beq_eq_false_iff_ne] at h
  simp only [scan_written.f]
  rw [if_neg (by omega), if_neg (by omega), if_neg (by omega), if_neg (by omega), if_neg (by omega)]
theorem two_list (x y : UInt8) : (⟨#[x, y]⟩ : ByteArray).toList = [x, y] ∧ (⟨#[x, y]⟩ : ByteArray).data.toList = [x, y] ∧ (⟨#[x, y]⟩ : ByteArray).size = 2 := ⟨by rw [ByteArray.toList_eq], rfl, rfl⟩
theorem none_list : (⟨#[]⟩ : ByteArray).toList = ([] : List UInt8) := by rw [ByteArray.toList_eq]

/-- One piece of what Quote writes: n bytes of s from place i on are written as P. -/
def PieceOf (s : ByteArray) (i n : Nat) (P : List UInt8) : Prop :=
  1 ≤ n ∧ i + n ≤ s.size ∧
  ((P = (s.extract i (i + n)).data.toList ∧ Ev (fun k => wire_character.f k s (i : Int)) (n : Int) ∧ (n = 1 → 32 ≤ bt s (i : Int) ∧ bt s (i : Int) < 127 ∧ special (bt s (i : Int)) = false) ∧ (1 < n → ¬ bt s (i : Int) < 128)) ∨
   (n = 1 ∧ special (bt s (i : Int)) = true ∧ P = [92, letterOf (bt s (i : Int))]) ∨
   (n = 1 ∧ special (bt s (i : Int)) = false ∧ (bt s (i : Int) < 128 → bt s (i : Int) < 32 ∨ bt s (i : Int) = 127) ∧ (¬ bt s (i : Int) < 128 → Ev (fun k => wire_character.f k s (i : Int)) 0) ∧ P = scan_oct (bt s (i : Int))))
def Enc (s : ByteArray) : Nat → Nat → List UInt8 → Prop
  | 0, i, E => i = s.size ∧ E = []
  | d + 1, i, E => (i = s.size ∧ E = []) ∨ ∃ (n : Nat) (P E' : List UInt8), E = P ++ E' ∧ PieceOf s i n P ∧ Enc s d (i + n) E'

section
variable (s : ByteArray) (hs : s.size ≤ 17592186044416)
include hs
theorem quote_step (i : Nat) (hi : i < s.size) (l : List UInt8) (hl : l.length ≤ 4 * i + 1) (k : Nat) :
    scan_Quote.l0 (k + 1) (s.extract i s.size) l = ((scan_written.f (bt s (i : Int))).bind fun t => if t.toList = ([] : List UInt8) then (if bt s (i : Int) ≥ 128 then ((scan_character.f k (s.extract i s.size)).bind fun n => if n > 0 then (if n ≤ ((s.extract i s.size).size : Int) then scan_Quote.l0 k ((s.extract i s.size).extract n.toNat (s.extract i s.size).size) (l ++ ((s.extract i s.size).extract 0 n.toNat).data.toList) else none) else scan_Quote.l0 k (s.extract (i + 1) s.size) (l ++ scan_oct (bt s (i : Int)))) else if bt s (i : Int) < 32 then scan_Quote.l0 k (s.extract (i + 1) s.size) (l ++ scan_oct (bt s (i : Int))) else if bt s (i : Int) ≥ 127 then scan_Quote.l0 k (s.extract (i + 1) s.size) (l ++ scan_oct (bt s (i : Int))) else scan_Quote.l0 k (s.extract (i + 1) s.size) (l ++ [UInt8.ofNat (bt s (i : Int)).toNat]))
      else if t.size ≤ 8 then scan_Quote.l0 k (s.extract (i + 1) s.size) (l ++ t.data.toList) else none) := by
  have hz := size_extract s i s.size (Nat.le_refl _)
  have hb : bt (s.extract i s.size) 0 = bt s (i : Int) := by rw [bt_extract s i s.size (Nat.le_refl _) 0 (by omega) (by omega), Int.add_zero]
  simp only [scan_Quote.l0]
  rw [if_pos (by omega), if_neg (fun h => by have := (toList_nil _).1 h; omega), if_pos (by omega), hb, sub_sub s i 1 (by omega)]
omit hs in
theorem oct_len (c : Int) : (scan_oct c).length = 4 := rfl
theorem quote_enc (d : Nat) : ∀ (i : Nat) (l : List UInt8), i ≤ s.size → s.size - i ≤ d → l.length ≤ 4 * i + 1 →
    ∃ E : List UInt8, Enc s d i E ∧ E.length ≤ 4 * (s.size - i) ∧ Ev (fun k => scan_Quote.l0 k (s.extract i s.size) l) (⟨(l ++ (E ++ [34])).toArray⟩ : ByteArray) := by
  have fin : ∀ (i : Nat) (l : List UInt8), i = s.size → l.length ≤ 4 * i + 1 → Ev (fun k => scan_Quote.l0 k (s.extract i s.size) l) (⟨(l ++ ([] ++ [34])).toArray⟩ : ByteArray) := by
    rintro i l rfl hl
    have hz := size_extract s s.size s.size (Nat.le_refl _)
    refine Ev.step (f := fun _ => some (⟨(l ++ [34]).toArray⟩ : ByteArray)) (fun k => ?_) (Ev.now _)
    simp only [scan_Quote.l0]
    rw [if_pos (by omega), if_pos ((toList_nil _).2 (by omega))]
  induction d with
  | zero =>
    intro i l hi hd hl
    have e : i = s.size := by omega
    exact ⟨[], ⟨e, rfl⟩, by simp, fin i l e hl⟩
  | succ d ih =>
    intro i l hi hd hl
    by_cases c : i = s.size
    · exact ⟨[], .inl ⟨c, rfl⟩, by simp, fin i l c hl⟩
    have hi' : i < s.size := by omega
    have next : ∀ (n : Nat) (P : List UInt8), PieceOf s i n P → P.length ≤ 4 * n → (∀ r, Ev (fun k => scan_Quote.l0 k (s.extract (i + n) s.size) (l ++ P)) r → Ev (fun k => scan_Quote.l0 k (s.extract i s.size) l) r) →
        ∃ E : List UInt8, Enc s (d + 1) i E ∧ E.length ≤ 4 * (s.size - i) ∧ Ev (fun k => scan_Quote.l0 k (s.extract i s.size) l) (⟨(l ++ (E ++ [34])).toArray⟩ : ByteArray) := by
      intro n P hP hPl hr
      have h1 := hP.1
      have h2 := hP.2.1
      obtain ⟨E, g1, g2, g3⟩ := ih (i + n) (l ++ P) h2 (by omega) (by rw [List.length_append]; omega)
      refine ⟨P ++ E, .inr ⟨n, P, E, rfl, hP, g1⟩, by rw [List.length_append]; omega, hr _ ?_⟩
      rw [List.append_assoc] at g3
      rw [List.append_assoc]
      exact g3
    have hbr := bt_range s (i : Int)
    obtain ⟨f, f1, _, f3, f4⟩ := chr_both s (by omega) (i : Int) (by omega) (by omega)
    by_cases sp : special (bt s (i : Int)) = true
    · have hw := written_special _ sp
      obtain ⟨e1, e2, e3⟩ := two_list 92 (letterOf (bt s (i : Int)))
      refine next 1 [92, letterOf (bt s (i : Int))] ⟨Nat.le_refl _, hi', .inr (.inl ⟨rfl, sp, rfl⟩)⟩ (by simp) (fun r hr => Ev.step (fun k => ?_) hr)
      rw [quote_step s hs i hi' l hl k, hw, Option.bind_some, if_neg (by rw [e1]; simp), if_pos (by rw [e3]; omega), e2]
    have sp : special (bt s (i : Int)) = false := Bool.eq_false_iff.mpr sp
    have hw := written_plain _ sp
    have st : ∀ k, scan_Quote.l0 (k + 1) (s.extract i s.size) l = (if bt s (i : Int) ≥ 128 then ((scan_character.f k (s.extract i s.size)).bind fun n => if n > 0 then (if n ≤ ((s.extract i s.size).size : Int) then scan_Quote.l0 k ((s.extract i s.size).extract n.toNat (s.extract i s.size).size) (l ++ ((s.extract i s.size).extract 0 n.toNat).data.toList) else none) else scan_Quote.l0 k (s.extract (i + 1) s.size) (l ++ scan_oct (bt s (i : Int)))) else if bt s (i : Int) < 32 then scan_Quote.l0 k (s.extract (i + 1) s.size) (l ++ scan_oct (bt s (i : Int))) else if bt s (i : Int) ≥ 127 then scan_Quote.l0 k (s.extract (i + 1) s.size) (l ++ scan_oct (bt s (i : Int))) else scan_Quote.l0 k (s.extract (i + 1) s.size) (l ++ [UInt8.ofNat (bt s (i : Int)).toNat])) := by
      intro k
      rw [quote_step s hs i hi' l hl k, hw, Option.bind_some, if_pos none_list]
    by_cases c1 : bt s (i : Int) < 128
    · have hf1 : f = 1 := f4.2 c1
      by_cases c2 : bt s (i : Int) < 32
      · refine next 1 (scan_oct (bt s (i : Int))) ⟨Nat.le_refl _, hi', .inr (.inr ⟨rfl, sp, fun _ => .inl c2, fun h => absurd c1 h, rfl⟩)⟩ (by rw [oct_len]; omega) (fun r hr => Ev.step (fun k => ?_) hr)
        rw [st, if_neg (by omega), if_pos c2]
      · by_cases c3 : bt s (i : Int) ≥ 127
        · refine next 1 (scan_oct (bt s (i : Int))) ⟨Nat.le_refl _, hi', .inr (.inr ⟨rfl, sp, fun _ => .inr (by omega), fun h => absurd c1 h, rfl⟩)⟩ (by rw [oct_len]; omega) (fun r hr => Ev.step (fun k => ?_) hr)
          rw [st, if_neg (by omega), if_neg c2, if_pos c3]
        · have e1 : (s.extract i (i + 1)).data.toList = [UInt8.ofNat (bt s (i : Int)).toNat] := by
            obtain ⟨h1, e⟩ := bt_list s (i : Int) (by omega) (by omega)
            have ha : ((i : Int)).toNat = i := by omega
            simp only [ha] at h1 e
            rw [Lib.extract_data, List.drop_eq_getElem_cons h1, show i + 1 - i = 1 by omega, List.take_succ_cons, List.take_zero, e]
            simp
          refine next 1 [UInt8.ofNat (bt s (i : Int)).toNat] ⟨Nat.le_refl _, hi', .inl ⟨e1.symm, by rw [hf1] at f1; exact f1, fun _ => ⟨by omega, by omega, sp⟩, fun h => by omega⟩⟩ (by simp) (fun r hr => Ev.step (fun k => ?_) hr)
          rw [st, if_neg (by omega), if_neg c2, if_neg c3]
    · have hz := size_extract s i s.size (Nat.le_refl _)
      have hb0 : bt (s.extract i s.size) 0 = bt s (i : Int) := by rw [bt_extract s i s.size (Nat.le_refl _) 0 (by omega) (by omega), Int.add_zero]
      have hch : Ev (fun k => wire_character.f k (s.extract i s.size) 0) f := by
        by_cases fz : f = 0
        · obtain ⟨q, q1, _, q3, q4⟩ := chr_both (s.extract i s.size) (by omega) 0 (by omega) (by omega)
          by_cases z : q = 0
          · subst z; rw [fz]; exact q1
          · exfalso
            have g := (chr_same (a := 0) (b := i) (s := s.extract i s.size) (t := s) (by omega) (by omega) (by omega) q1 z).2 (fun x x0 x1 => by
              rw [show ((0 : Nat) : Int) + x = x by omega]
              exact bt_extract s i s.size (Nat.le_refl _) x x0 (by omega)) (by omega)
            have := Ev.unique g f1
            omega
        · exact (chr_same (a := i) (b := 0) (s := s) (t := s.extract i s.size) (by omega) (by omega) (by omega) f1 fz).2 (fun x x0 x1 => by
            rw [show ((0 : Nat) : Int) + x = x by omega]
            exact (bt_extract s i s.size (Nat.le_refl _) x x0 (by omega)).symm) (by omega)
      have hce := character_ev (s.extract i s.size) (by omega) (by omega) f hch (by omega)
      by_cases fz : f = 0
      · refine next 1 (scan_oct (bt s (i : Int))) ⟨Nat.le_refl _, hi', .inr (.inr ⟨rfl, sp, fun h => absurd h c1, fun _ => by rw [← fz]; exact f1, rfl⟩)⟩ (by rw [oct_len]; omega) (fun r hr => Ev.step (f := fun k => (scan_character.f k (s.extract i s.size)).bind fun n => if n > 0 then (if n ≤ ((s.extract i s.size).size : Int) then scan_Quote.l0 k ((s.extract i s.size).extract n.toNat (s.extract i s.size).size) (l ++ ((s.extract i s.size).extract 0 n.toNat).data.toList) else none) else scan_Quote.l0 k (s.extract (i + 1) s.size) (l ++ scan_oct (bt s (i : Int)))) (fun k => ?_) (Ev.bind hce ?_))
        · rw [st, if_pos (by omega)]
        · simp only [if_neg (show ¬ f > 0 by omega)]
          exact hr
      · obtain ⟨n, rfl⟩ : ∃ n : Nat, f = (n : Int) := ⟨f.toNat, by omega⟩
        have en : (s.extract i (i + n)).data.toList.length = n := by
          rw [Array.length_toList]
          have := size_extract s i (i + n) (by omega)
          show (s.extract i (i + n)).size = n
          omega
        refine next n (s.extract i (i + n)).data.toList ⟨by omega, by omega, .inl ⟨rfl, f1, fun h => by exfalso; omega, fun _ => c1⟩⟩ (by rw [en]; omega) (fun r hr => Ev.step (f := fun k => (scan_character.f k (s.extract i s.size)).bind fun n => if n > 0 then (if n ≤ ((s.extract i s.size).size : Int) then scan_Quote.l0 k ((s.extract i s.size).extract n.toNat (s.extract i s.size).size) (l ++ ((s.extract i s.size).extract 0 n.toNat).data.toList) else none) else scan_Quote.l0 k (s.extract (i + 1) s.size) (l ++ scan_oct (bt s (i : Int)))) (fun k => ?_) (Ev.bind hce ?_))
        · rw [st, if_pos (by omega)]
        · simp only [if_pos (show (n : Int) > 0 by omega), if_pos (show (n : Int) ≤ ((s.extract i s.size).size : Int) by omega), show ((n : Int)).toNat = n by omega]
          rw [sub_sub s i n (by omega), sub_front s i n (by omega)]
          exact hr
/-- What Quote comes to. -/
theorem quote_ev : ∃ E : List UInt8, Enc s s.size 0 E ∧ E.length ≤ 4 * s.size ∧ Ev (fun k => scan_Quote.f k s) (⟨([34] ++ (E ++ [34])).toArray⟩ : ByteArray) := by
  obtain ⟨E, g1, g2, g3⟩ := quote_enc s hs s.size 0 [34] (by omega) (by omega) (by simp)
  rw [sub_all] at g3
  exact ⟨E, g1, by omega, g3⟩
end
end Go.Proofs.YtabgnbbljjohdaaRDoor.Quot
