/- Plain laws of the scanner: what scan.Tokens makes of a text is what the document's Tokens makes of it, for every text. No condition but the text's size. -/
import Derived.Test.YtabgnbbljjohdaaRDoorUnq
import Derived.Lib.IndexMore
import Derived.Lib.IndexLaws
namespace Go.Proofs.YtabgnbbljjohdaaRDoor.Toks
open Go.RowKit Go.Proofs.YtabgnbbljjohdaaRDoor.A Go.Proofs.YtabgnbbljjohdaaRDoorW.PrintWords Go.Proofs.YtabgnbbljjohdaaRDoor.U Go.Proofs.YtabgnbbljjohdaaRDoor.Scan1 Go.Proofs.YtabgnbbljjohdaaRDoor.Utf8 Go.Proofs.YtabgnbbljjohdaaRDoor.Unq

set_option maxRecDepth 100000 in
theorem blank_tab : ∀ n : Fin 256, sigilref4_blank.f (n.val : Int) = some (cls (n.val : Int) == 1) := by decide +kernel
theorem blank_eq (s : ByteArray) (i : Int) : sigilref4_blank.f (bt s i) = some (cls (bt s i) == 1) :=
  byte_all (P := fun c => sigilref4_blank.f c = some (cls c == 1)) blank_tab (bt_range s i).1 (bt_range s i).2
set_option maxRecDepth 100000 in
theorem sign_tab : ∀ n : Fin 256, sigilref4_sign.f 16 (n.val : Int) = some (cls (n.val : Int) == 5) := by decide +kernel
theorem sign_ev (s : ByteArray) (i : Int) : Ev (fun k => sigilref4_sign.f k (bt s i)) (cls (bt s i) == 5) :=
  Ev.of (sigilref4_sign.mono _) (byte_all (P := fun c => sigilref4_sign.f 16 c = some (cls c == 5)) sign_tab (bt_range s i).1 (bt_range s i).2)
set_option maxRecDepth 100000 in
theorem cls_tab7 : ∀ n : Fin 256, 0 ≤ cls (n.val : Int) ∧ cls (n.val : Int) < 7 ∧ ((cls (n.val : Int) = 6) ↔ ((n.val : Int) = 47)) := by decide +kernel
theorem cls_range (s : ByteArray) (i : Int) : 0 ≤ cls (bt s i) ∧ cls (bt s i) < 7 ∧ ((cls (bt s i) = 6) ↔ (bt s i = 47)) :=
  byte_all (P := fun c => 0 ≤ cls c ∧ cls c < 7 ∧ ((cls c = 6) ↔ (c = 47))) cls_tab7 (bt_range s i).1 (bt_range s i).2

/-- Two bytes in a row. -/
theorem two (s : ByteArray) (a : Nat) (h : a + 2 ≤ s.size) : ∃ x y : UInt8, (s.extract a (a + 2)).toList = [x, y] ∧ bt s (a : Int) = (x.toNat : Int) ∧ bt s ((a : Int) + 1) = (y.toNat : Int) ∧ (s.data.toList.drop a) = x :: y :: s.data.toList.drop (a + 2) := by
  have hl : s.data.toList.length = s.size := by rw [Array.length_toList]; rfl
  obtain ⟨h1, e1⟩ := bt_list s (a : Int) (by omega) (by omega)
  obtain ⟨h2, e2⟩ := bt_list s ((a : Int) + 1) (by omega) (by omega)
  have ha : ((a : Int)).toNat = a := by omega
  have hb : ((a : Int) + 1).toNat = a + 1 := by omega
  simp only [ha, hb] at h1 e1 h2 e2
  have hd : s.data.toList.drop a = (s.data.toList)[a] :: (s.data.toList)[a + 1] :: s.data.toList.drop (a + 2) := by
    rw [List.drop_eq_getElem_cons h1, List.drop_eq_getElem_cons h2]
  refine ⟨(s.data.toList)[a], (s.data.toList)[a + 1], ?_, e1, e2, hd⟩
  rw [Lib.extract_toList, hd, show a + 2 - a = 2 by omega]
  rfl
theorem two_iff (s : ByteArray) (a : Nat) (h : a + 2 ≤ s.size) (x y : UInt8) : (s.extract a (a + 2)).toList = [x, y] ↔ (bt s (a : Int) = (x.toNat : Int) ∧ bt s ((a : Int) + 1) = (y.toNat : Int)) := by
  obtain ⟨x', y', h1, h2, h3, _⟩ := two s a h
  rw [h1, h2, h3]
  constructor
  · intro e
    simp only [List.cons.injEq, and_true] at e
    rw [e.1, e.2]; exact ⟨rfl, rfl⟩
  · rintro ⟨e1, e2⟩
    have e1' : x'.toNat = x.toNat := by omega
    have e2' : y'.toNat = y.toNat := by omega
    rw [UInt8.toNat_inj.mp e1', UInt8.toNat_inj.mp e2']
/-- HasPrefix with two bytes. -/
theorem prefix2 (t : ByteArray) (x y : UInt8) : strings_HasPrefix.f t (⟨#[x, y]⟩ : ByteArray) = some (decide (2 ≤ t.size ∧ bt t 0 = (x.toNat : Int) ∧ bt t 1 = (y.toNat : Int))) := by
  have e2 : ((⟨#[x, y]⟩ : ByteArray).size : Int) = 2 := rfl
  have el : (⟨#[x, y]⟩ : ByteArray).toList = [x, y] := by rw [ByteArray.toList_eq]
  simp only [strings_HasPrefix.f, stringslite_HasPrefix.f]
  rw [e2]
  by_cases c : 2 ≤ t.size
  · rw [if_pos (by omega), if_pos (by omega), if_pos (by omega), show (2 : Int).toNat = 0 + 2 from rfl, el]
    have h := two_iff t 0 (by omega) x y
    simp only [Option.bind_some]
    congr 1
    rw [Bool.eq_iff_iff, beq_iff_eq, h, decide_eq_true_eq]
    constructor
    · rintro ⟨h1, h2⟩; exact ⟨c, by simpa using h1, by simpa using h2⟩
    · rintro ⟨_, h1, h2⟩; exact ⟨by simpa using h1, by simpa using h2⟩
  · rw [if_neg (by omega)]
    simp only [Option.bind_some]
    congr 1
    symm
    exact decide_eq_false (fun h => c h.1)

section
variable (s : ByteArray) (hs : s.size ≤ 65536)
include hs

/-- A line comment: from i on no byte 10 up to m. -/
theorem line_walk (m : Nat) (hm : m ≤ s.size) (hend : m < s.size → bt s (m : Int) = 10) (d : Nat) : ∀ i : Nat, i ≤ m → m - i = d → (∀ j : Int, (i : Int) ≤ j → j < m → bt s j ≠ 10) →
    ∀ x, Ev (fun k => sigilref4_pass.l0 k s (m : Int)) x → Ev (fun k => sigilref4_pass.l1 k s (i : Int)) x := by
  induction d with
  | zero =>
    intro i hi hd hn x hx
    obtain rfl : i = m := by omega
    refine Ev.step (f := fun k => sigilref4_pass.l0 k s (i : Int)) (fun k => ?_) hx
    simp only [sigilref4_pass.l1]
    by_cases c : i < s.size
    · rw [if_pos (by omega), if_pos (by omega), if_pos (hend c)]
    · rw [if_neg (by omega)]
  | succ d ih =>
    intro i hi hd hn x hx
    refine Ev.step (f := fun k => sigilref4_pass.l1 k s ((i + 1 : Nat) : Int)) (fun k => ?_) (ih (i + 1) (by omega) (by omega) (fun j h1 h2 => hn j (by omega) h2) x hx)
    simp only [sigilref4_pass.l1]
    rw [if_pos (by omega), if_pos (by omega), if_neg (hn i (by omega) (by omega)), w64 (by omega) (by omega)]
    rfl
/-- Whether the comment's end stands at place j. -/
def ends (s : ByteArray) (j : Nat) : Prop := j + 2 ≤ s.size ∧ bt s (j : Int) = 42 ∧ bt s ((j : Int) + 1) = 47
theorem star_step (a i : Nat) (k : Nat) (h : ¬ ends s i) (hi : i + 2 ≤ s.size) : sigilref4_pass.l2 (k + 1) s (a : Int) (i : Int) = sigilref4_pass.l2 k s (a : Int) ((i + 1 : Nat) : Int) := by
  simp only [sigilref4_pass.l2]
  rw [w64 (n := (i : Int) + 2) (by omega) (by omega), if_pos (by omega), if_pos (by omega), if_pos (by omega), show ((i : Int)).toNat = i by omega, show ((i : Int) + 2).toNat = i + 2 by omega]
  rw [if_neg (fun e => h ⟨hi, (two_iff s i hi 42 47).1 e⟩), w64 (n := (i : Int) + 1) (by omega) (by omega)]
  rfl
theorem star_walk (a m : Nat) (hm : ends s m) (d : Nat) : ∀ i : Nat, i ≤ m → m - i = d → (∀ j : Nat, i ≤ j → j < m → ¬ ends s j) →
    ∀ x, Ev (fun k => sigilref4_pass.l0 k s ((m : Int) + 2)) x → Ev (fun k => sigilref4_pass.l2 k s (a : Int) (i : Int)) x := by
  induction d with
  | zero =>
    intro i hi hd hn x hx
    obtain rfl : i = m := by omega
    refine Ev.step (f := fun k => sigilref4_pass.l0 k s ((i : Int) + 2)) (fun k => ?_) hx
    have hm1 := hm.1
    simp only [sigilref4_pass.l2]
    rw [w64 (n := (i : Int) + 2) (by omega) (by omega), if_pos (by omega), if_pos (by omega), if_pos (by omega), show ((i : Int)).toNat = i by omega, show ((i : Int) + 2).toNat = i + 2 by omega, if_pos ((two_iff s i hm1 42 47).2 hm.2), if_neg (by omega)]
  | succ d ih =>
    intro i hi hd hn x hx
    have hm1 := hm.1
    exact Ev.step (fun k => star_step s hs a i k (hn i (by omega) (by omega)) (by omega)) (ih (i + 1) (by omega) (by omega) (fun j h1 h2 => hn j (by omega) h2) x hx)
theorem star_none (a : Nat) (d : Nat) : ∀ i : Nat, i ≤ s.size → s.size - i = d → (∀ j : Nat, i ≤ j → ¬ ends s j) → Ev (fun k => sigilref4_pass.l2 k s (a : Int) (i : Int)) ((a : Int), false) := by
  induction d with
  | zero =>
    intro i hi hd hn
    refine Ev.step (f := fun _ => some ((a : Int), false)) (fun k => ?_) (Ev.now _)
    simp only [sigilref4_pass.l2]
    rw [w64 (n := (i : Int) + 2) (by omega) (by omega), if_neg (by omega), if_pos (by omega)]
  | succ d ih =>
    intro i hi hd hn
    by_cases c : i + 2 ≤ s.size
    · exact Ev.step (fun k => star_step s hs a i k (hn i (by omega)) c) (ih (i + 1) (by omega) (by omega) (fun j h1 => hn j (by omega)))
    · refine Ev.step (f := fun _ => some ((a : Int), false)) (fun k => ?_) (Ev.now _)
      simp only [sigilref4_pass.l2]
      rw [w64 (n := (i : Int) + 2) (by omega) (by omega), if_neg (by omega), if_pos (by omega)]

/-- pass, one step at a place inside the text. -/
theorem pass_step (a : Nat) (ha : a < s.size) (hb : ¬ cls (bt s (a : Int)) = 1) : ∀ x,
    (2 ≤ s.size - a ∧ bt s (a : Int) = 47 ∧ bt s ((a : Int) + 1) = 47 → Ev (fun k => sigilref4_pass.l1 k s (a : Int)) x) →
    (2 ≤ s.size - a ∧ bt s (a : Int) = 47 ∧ bt s ((a : Int) + 1) = 42 → Ev (fun k => sigilref4_pass.l2 k s (a : Int) ((a + 2 : Nat) : Int)) x) →
    (¬ (2 ≤ s.size - a ∧ bt s (a : Int) = 47 ∧ (bt s ((a : Int) + 1) = 47 ∨ bt s ((a : Int) + 1) = 42)) → x = ((a : Int), true)) → Ev (fun k => sigilref4_pass.l0 k s (a : Int)) x := by
  intro x h1 h2 h3
  have hbb : (cls (bt s (a : Int)) == 1) = false := beq_eq_false_iff_ne.mpr hb
  by_cases c : a + 2 ≤ s.size
  · have e0 : ∀ k, sigilref4_pass.l0 (k + 1) s (a : Int) = sigilref4_pass.j1 k s (a : Int) (s.extract a (a + 2)) := by
      intro k; simp only [sigilref4_pass.l0]
      rw [if_pos (by omega), w64 (n := (a : Int) + 2) (by omega) (by omega), if_pos (by omega), if_pos (by omega), if_pos (by omega), show ((a : Int)).toNat = a by omega, show ((a : Int) + 2).toNat = a + 2 by omega]
    have e1 : ∀ k, sigilref4_pass.j1 (k + 1) s (a : Int) (s.extract a (a + 2)) = if (s.extract a (a + 2)).toList = ([47, 47] : List UInt8) then sigilref4_pass.l1 k s (a : Int) else (if (s.extract a (a + 2)).toList = ([47, 42] : List UInt8) then sigilref4_pass.l2 k s (a : Int) ((a + 2 : Nat) : Int) else some ((a : Int), true)) := by
      intro k; simp only [sigilref4_pass.j1]
      rw [if_pos (by omega), if_pos (by omega), blank_eq, hbb, w64 (n := (a : Int) + 2) (by omega) (by omega)]
      rfl
    refine Ev.step e0 (Ev.step e1 ?_)
    by_cases d1 : (s.extract a (a + 2)).toList = ([47, 47] : List UInt8)
    · simp only [if_pos d1]
      exact h1 ⟨by omega, (two_iff s a c 47 47).1 d1⟩
    · simp only [if_neg d1]
      by_cases d2 : (s.extract a (a + 2)).toList = ([47, 42] : List UInt8)
      · simp only [if_pos d2]
        exact h2 ⟨by omega, (two_iff s a c 47 42).1 d2⟩
      · simp only [if_neg d2]
        rw [h3 (fun h => by
          rcases h.2.2 with h' | h'
          · exact d1 ((two_iff s a c 47 47).2 ⟨h.2.1, h'⟩)
          · exact d2 ((two_iff s a c 47 42).2 ⟨h.2.1, h'⟩))]
        exact Ev.now _
  · refine Ev.step (f := fun k => sigilref4_pass.j1 k s (a : Int) (⟨#[]⟩ : ByteArray)) (fun k => ?_) (Ev.step (f := fun _ => some ((a : Int), true)) (fun k => ?_) ?_)
    · simp only [sigilref4_pass.l0]
      rw [if_pos (by omega), w64 (n := (a : Int) + 2) (by omega) (by omega), if_neg (by omega)]
    · simp only [sigilref4_pass.j1]
      rw [if_pos (by omega), if_pos (by omega), blank_eq, hbb]
      have el : (⟨#[]⟩ : ByteArray).toList = ([] : List UInt8) := by rw [ByteArray.toList_eq]
      rw [el]
      rfl
    · rw [h3 (fun h => by omega)]
      exact Ev.now _
theorem pass_blank (a : Nat) (ha : a < s.size) (hb : cls (bt s (a : Int)) = 1) (x : Int × Bool) (hx : Ev (fun k => sigilref4_pass.l0 k s ((a : Int) + 1)) x) : Ev (fun k => sigilref4_pass.l0 k s (a : Int)) x := by
  have hbb : (cls (bt s (a : Int)) == 1) = true := beq_iff_eq.mpr hb
  have e1 : ∀ t k, sigilref4_pass.j1 (k + 1) s (a : Int) t = sigilref4_pass.l0 k s ((a : Int) + 1) := by
    intro t k; simp only [sigilref4_pass.j1]
    rw [if_pos (by omega), if_pos (by omega), blank_eq, hbb, w64 (n := (a : Int) + 1) (by omega) (by omega)]
    rfl
  by_cases c : a + 2 ≤ s.size
  · refine Ev.step (f := fun k => sigilref4_pass.j1 k s (a : Int) (s.extract a (a + 2))) (fun k => ?_) (Ev.step (e1 _) hx)
    simp only [sigilref4_pass.l0]
    rw [if_pos (by omega), w64 (n := (a : Int) + 2) (by omega) (by omega), if_pos (by omega), if_pos (by omega), if_pos (by omega), show ((a : Int)).toNat = a by omega, show ((a : Int) + 2).toNat = a + 2 by omega]
  · refine Ev.step (f := fun k => sigilref4_pass.j1 k s (a : Int) (⟨#[]⟩ : ByteArray)) (fun k => ?_) (Ev.step (e1 _) hx)
    simp only [sigilref4_pass.l0]
    rw [if_pos (by omega), w64 (n := (a : Int) + 2) (by omega) (by omega), if_neg (by omega)]

/-- What a slash begins. n: how many bytes are passed over; or no end (43), or no comment (40). -/
theorem comment_both (a : Nat) (ha : a < s.size) (h47 : bt s (a : Int) = 47) (t : ByteArray) (ht : t = s.extract a s.size) :
    (∃ n : Nat, 1 ≤ n ∧ a + n ≤ s.size ∧ scan_comment.f t = some (0, (n : Int), 0) ∧ ∀ x, Ev (fun k => sigilref4_pass.l0 k s ((a : Int) + n)) x → Ev (fun k => sigilref4_pass.l0 k s (a : Int)) x) ∨
    (scan_comment.f t = some (0, 0, 43) ∧ Ev (fun k => sigilref4_pass.l0 k s (a : Int)) ((a : Int), false)) ∨
    (scan_comment.f t = some (0, 0, 40) ∧ Ev (fun k => sigilref4_pass.l0 k s (a : Int)) ((a : Int), true)) := by
  have hsz : t.size = s.size - a := by rw [ht, size_extract s a s.size (Nat.le_refl _)]
  have hbt : ∀ j : Int, 0 ≤ j → j < (t.size : Int) → bt t j = bt s ((a : Int) + j) := by
    intro j h0 h1; rw [ht, bt_extract s a s.size (Nat.le_refl _) j h0 (by omega)]
  have hb : ¬ cls (bt s (a : Int)) = 1 := by
    intro h
    have := (cls_range s (a : Int)).2.2.2 h47
    omega
  have h0 : bt t 0 = 47 := by rw [hbt 0 (by omega) (by omega), Int.add_zero, h47]
  have hdata : t.data.toList = s.data.toList.drop a := by
    rw [ht, Lib.extract_data, List.take_of_length_le]
    rw [List.length_drop, Array.length_toList]
    exact Nat.le_refl _
  have hll : t.data.toList.length = t.size := by rw [Array.length_toList]; rfl
  have getb : ∀ (j : Nat) (h : j < t.data.toList.length), bt t (j : Int) = ((t.data.toList)[j].toNat : Int) := by
    intro j h
    obtain ⟨h1, e⟩ := bt_list t (j : Int) (by omega) (by omega)
    simpa using e
  have ec : scan_comment.f t = (some (decide (2 ≤ t.size ∧ bt t 0 = 47 ∧ bt t 1 = 47))).bind fun t161 => (if t161 = true then ((strings_IndexByte.f t 10).bind fun t162 => (if t162 ≥ 0 then (some (0, t162, 0)) else (some (0, (t.size : Int), 0)))) else ((some (decide (2 ≤ t.size ∧ bt t 0 = 47 ∧ bt t 1 = 42))).bind fun t163 => (if t163 = true then (if 2 ≤ (t.size : Int) then ((strings_Index.f (t.extract 2 t.size) (⟨#[42, 47]⟩ : ByteArray)).bind fun t164 => (if t164 ≥ 0 then (some (0, wrap64 (t164 + 4), 0)) else (some (0, 0, 43)))) else (none)) else (some (0, 0, 40))))) := by
    simp only [scan_comment.f]
    rw [prefix2 t 47 47, prefix2 t 47 42]
    rfl
  simp only [Option.bind_some] at ec
  have h1' : 2 ≤ t.size → bt t 1 = bt s ((a : Int) + 1) := fun h => hbt 1 (by omega) (by omega)
  by_cases d1 : 2 ≤ t.size ∧ bt t 0 = 47 ∧ bt t 1 = 47
  · rw [if_pos (decide_eq_true d1)] at ec
    left
    have hge := Lib.indexByte_ge t.data.toList 10
    have hI : strings_IndexByte.f t 10 = some (Lib.indexByte t.data.toList 10) := rfl
    rw [hI, Option.bind_some] at ec
    have pass : ∀ m : Nat, a ≤ m → m ≤ s.size → (m < s.size → bt s (m : Int) = 10) → (∀ j : Int, (a : Int) ≤ j → j < m → bt s j ≠ 10) → ∀ x, Ev (fun k => sigilref4_pass.l0 k s (m : Int)) x → Ev (fun k => sigilref4_pass.l0 k s (a : Int)) x := by
      intro m hm hm2 hm3 hm4 x hx
      refine pass_step s hs a ha hb x (fun _ => line_walk s hs m hm2 hm3 (m - a) a hm rfl hm4 x hx) (fun h => ?_) (fun h => ?_)
      · exfalso
        have := h1' d1.1
        omega
      · exfalso
        exact h ⟨by omega, h47, .inl (by rw [← h1' d1.1]; exact d1.2.2)⟩
    by_cases c : Lib.indexByte t.data.toList 10 ≥ 0
    · rw [if_pos c] at ec
      obtain ⟨o, ho⟩ : ∃ o : Nat, Lib.indexByte t.data.toList 10 = (o : Int) := ⟨_, (Int.toNat_of_nonneg c).symm⟩
      obtain ⟨g1, g2⟩ := Lib.indexByte_some ho
      obtain ⟨hol, g1'⟩ := List.getElem?_eq_some_iff.1 g1
      have hbo : bt t (o : Int) = 10 := by rw [getb o hol, g1']; rfl
      have ho0 : o ≠ 0 := by
        rintro rfl
        have : bt t (0 : Int) = 10 := hbo
        omega
      rw [ho] at ec
      refine ⟨o, by omega, by omega, ec, fun x hx => pass (a + o) (by omega) (by omega) (fun _ => ?_) (fun j hj1 hj2 => ?_) x (by simpa using hx)⟩
      · rw [hbt o (by omega) (by omega)] at hbo
        simpa using hbo
      · intro e
        have hjl : (j - a).toNat < t.data.toList.length := by omega
        have hb1 := getb (j - a).toNat hjl
        have hb2 := hbt (j - a) (by omega) (by omega)
        rw [show (((j - a).toNat : Nat) : Int) = j - a by omega] at hb1
        rw [show (a : Int) + (j - a) = j by omega, e] at hb2
        have : (t.data.toList)[(j - a).toNat] = 10 := by
          apply UInt8.toNat_inj.mp
          have h10 : ((10 : UInt8).toNat) = 10 := rfl
          rw [h10]; omega
        exact g2 (j - a).toNat (by omega) (by rw [List.getElem?_eq_getElem hjl, this])
    · rw [if_neg c] at ec
      have hm1 : Lib.indexByte t.data.toList 10 = -1 := by omega
      have g := Lib.indexByte_none hm1
      refine ⟨t.size, by omega, by omega, ec, fun x hx => pass (a + t.size) (by omega) (by omega) (fun h => by omega) (fun j hj1 hj2 => ?_) x (by simpa using hx)⟩
      intro e
      have hjl : (j - a).toNat < t.data.toList.length := by omega
      have hb1 := getb (j - a).toNat hjl
      have hb2 := hbt (j - a) (by omega) (by omega)
      rw [show (((j - a).toNat : Nat) : Int) = j - a by omega] at hb1
      rw [show (a : Int) + (j - a) = j by omega, e] at hb2
      have : (t.data.toList)[(j - a).toNat] = 10 := by
        apply UInt8.toNat_inj.mp
        have h10 : ((10 : UInt8).toNat) = 10 := rfl
        rw [h10]; omega
      exact g (j - a).toNat (by rw [List.getElem?_eq_getElem hjl, this])
  · rw [if_neg (by simpa using d1)] at ec
    by_cases d2 : 2 ≤ t.size ∧ bt t 0 = 47 ∧ bt t 1 = 42
    · rw [if_pos (decide_eq_true d2), if_pos (by omega)] at ec
      have hs2 := size_extract t 2 t.size (Nat.le_refl _)
      have hI : strings_Index.f (t.extract 2 t.size) (⟨#[42, 47]⟩ : ByteArray) = some (Lib.index (t.extract 2 t.size).data.toList [42, 47]) := by
        simp only [strings_Index.f]; rw [if_pos (by omega)]
      rw [hI, Option.bind_some] at ec
      have hd2 : (t.extract 2 t.size).data.toList = s.data.toList.drop (a + 2) := by
        rw [Lib.extract_data, hdata, List.drop_drop, List.take_of_length_le]
        rw [List.length_drop, Array.length_toList]
        have : s.data.size = s.size := rfl
        omega
      rw [hd2] at ec
      have occ : ∀ j : Nat, Lib.occAt (s.data.toList.drop (a + 2)) [42, 47] j = true ↔ ends s (a + 2 + j) := by
        intro j
        unfold Lib.occAt ends
        rw [List.drop_drop]
        by_cases c : a + 2 + j + 2 ≤ s.size
        · obtain ⟨x, y, _, hx, hy, hl⟩ := two s (a + 2 + j) c
          rw [hl]
          simp only [List.isPrefixOf, Bool.and_true, Bool.and_eq_true, beq_iff_eq]
          constructor
          · rintro ⟨e1, e2⟩
            exact ⟨c, by rw [hx, ← e1]; rfl, by rw [hy, ← e2]; rfl⟩
          · rintro ⟨_, e1, e2⟩
            refine ⟨?_, ?_⟩
            · apply UInt8.toNat_inj.mp
              have h42 : ((42 : UInt8).toNat) = 42 := rfl
              rw [h42]; omega
            · apply UInt8.toNat_inj.mp
              have h47' : ((47 : UInt8).toNat) = 47 := rfl
              rw [h47']; omega
        · constructor
          · intro h
            exfalso
            have hp := List.isPrefixOf_iff_prefix.1 h
            have := hp.length_le
            rw [List.length_drop, Array.length_toList] at this
            have hz : s.data.size = s.size := rfl
            simp at this
            omega
          · rintro ⟨h, _⟩; omega
      have pass : ∀ x, Ev (fun k => sigilref4_pass.l2 k s (a : Int) ((a + 2 : Nat) : Int)) x → Ev (fun k => sigilref4_pass.l0 k s (a : Int)) x := by
        intro x hx
        refine pass_step s hs a ha hb x (fun h => ?_) (fun _ => hx) (fun h => ?_)
        · exfalso
          have := h1' d2.1
          omega
        · exfalso
          exact h ⟨by omega, h47, .inr (by rw [← h1' d2.1]; exact d2.2.2)⟩
      rcases Lib.index_spec (s.data.toList.drop (a + 2)) [42, 47] with ⟨hn, hno⟩ | ⟨o, ho, hol, hoc, hno⟩
      · rw [hn, if_neg (by omega)] at ec
        right; left
        refine ⟨ec, pass _ (star_none s hs a _ (a + 2) (by omega) rfl (fun j hj he => ?_))⟩
        have he1 := he.1
        have := hno (j - (a + 2)) (by rw [List.length_drop, Array.length_toList]; have hz : s.data.size = s.size := rfl; omega)
        have h2 := (occ (j - (a + 2))).2 (by rw [show a + 2 + (j - (a + 2)) = j by omega]; exact he)
        rw [h2] at this
        cases this
      · rw [ho, if_pos (by omega)] at ec
        left
        have he := (occ o).1 hoc
        have he1 := he.1
        rw [w64 (by omega) (by omega)] at ec
        refine ⟨o + 4, by omega, by omega, by simpa using ec, fun x hx => pass x (star_walk s hs a (a + 2 + o) he o (a + 2) (by omega) (by omega) (fun j h1 h2 hj => ?_) x ?_)⟩
        · have h3 := hno (j - (a + 2)) (by omega)
          have h4 := (occ (j - (a + 2))).2 (by rw [show a + 2 + (j - (a + 2)) = j by omega]; exact hj)
          rw [h4] at h3
          cases h3
        · rw [show ((a + 2 + o : Nat) : Int) + 2 = (a : Int) + ((o + 4 : Nat) : Int) by omega]
          exact hx
    · rw [if_neg (by simpa using d2)] at ec
      right; right
      refine ⟨ec, pass_step s hs a ha hb _ (fun h => ?_) (fun h => ?_) (fun _ => rfl)⟩
      · exfalso; exact d1 ⟨by omega, h0, by rw [h1' (by omega)]; exact h.2.2⟩
      · exfalso; exact d2 ⟨by omega, h0, by rw [h1' (by omega)]; exact h.2.2⟩
end
end Go.Proofs.YtabgnbbljjohdaaRDoor.Toks
