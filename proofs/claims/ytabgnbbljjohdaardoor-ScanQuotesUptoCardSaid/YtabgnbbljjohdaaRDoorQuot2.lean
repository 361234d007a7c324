/- Plain laws of Quote: scan.Quote writes what the document's Quote writes, for every text. No condition but the text's size. -/
import Derived.Test.YtabgnbbljjohdaaRDoorQuot
import Derived.Test.YtabgnbbljjohdaaRDoorAxV
namespace Go.Proofs.YtabgnbbljjohdaaRDoor.Quot
open Go.RowKit Go.Proofs.YtabgnbbljjohdaaRDoor.A Go.Proofs.YtabgnbbljjohdaaRDoorW.PrintWords Go.Proofs.YtabgnbbljjohdaaRDoor.U Go.Proofs.YtabgnbbljjohdaaRDoor.Scan1 Go.Proofs.YtabgnbbljjohdaaRDoor.Utf8 Go.Proofs.YtabgnbbljjohdaaRDoor.Unq Go.Proofs.YtabgnbbljjohdaaRDoor.Toks Go.Proofs.YtabgnbbljjohdaaRDoor.Relex

set_option maxRecDepth 100000 in
theorem oct_tab : ∀ n : Fin 256, (sigilref4_octal.f (n.val : Int)).map (fun t => (t.data.toList, t.size)) = some (scan_oct (n.val : Int), 4) := by decide +kernel
theorem oct_eq (s : ByteArray) (i : Int) : ∃ t, sigilref4_octal.f (bt s i) = some t ∧ t.data.toList = scan_oct (bt s i) ∧ t.size = 4 := by
  have h := byte_all (P := fun c => (sigilref4_octal.f c).map (fun t => (t.data.toList, t.size)) = some (scan_oct c, 4)) oct_tab (bt_range s i).1 (bt_range s i).2
  obtain ⟨t, h1, h2⟩ := Option.map_eq_some_iff.1 h
  simp only [Prod.mk.injEq] at h2
  exact ⟨t, h1, h2⟩
section
variable (s : ByteArray) (hs : s.size ≤ 17592186044416)
include hs
set_option linter.unusedSectionVars false
theorem ref_step (i : Nat) (hi : i < s.size) (x : List Int) (f : Int) (hf : Ev (fun k => sigilref4_follow.f k s (i : Int)) f) (r : ByteArray) (h : Ev (fun k => sigilref4_Quote.j1 k s x (i : Int) (bt s (i : Int)) f (bt s (i : Int) == 92 || bt s (i : Int) == 34)) r) : Ev (fun k => sigilref4_Quote.l0 k s x (i : Int)) r := by
  refine Ev.step (f := fun k => (sigilref4_follow.f k s (i : Int)).bind fun t217 => (if (bt s (i : Int)) = 92 then (sigilref4_Quote.j1 k s x (i : Int) (bt s (i : Int)) t217 true) else (sigilref4_Quote.j1 k s x (i : Int) (bt s (i : Int)) t217 ((bt s (i : Int)) == 34)))) (fun k => ?_) (Ev.bind hf (Ev.congr (fun k => ?_) h))
  · simp only [sigilref4_Quote.l0]; rw [if_pos (by omega), if_pos (by omega)]
  · by_cases c : bt s (i : Int) = 92
    · rw [if_pos c, beq_iff_eq.mpr c]; rfl
    · rw [if_neg c, beq_eq_false_iff_ne.mpr c]; rfl

theorem ref_enc (d : Nat) : ∀ (i : Nat) (x : List Int) (E : List UInt8), i ≤ s.size → x.length ≤ 4 * i → Enc s d i E →
    ∃ y : List Int, y.map u8 = x.map u8 ++ E ∧ y.length ≤ 4 * s.size ∧ ∀ r, Ev (fun k => sigilref4_Quote.l0 k s y (s.size : Int)) r → Ev (fun k => sigilref4_Quote.l0 k s x (i : Int)) r := by
  have fin : ∀ (i : Nat) (x : List Int) (E : List UInt8), x.length ≤ 4 * i → i = s.size ∧ E = [] → ∃ y : List Int, y.map u8 = x.map u8 ++ E ∧ y.length ≤ 4 * s.size ∧ ∀ r, Ev (fun k => sigilref4_Quote.l0 k s y (s.size : Int)) r → Ev (fun k => sigilref4_Quote.l0 k s x (i : Int)) r := by
    rintro i x E hx ⟨rfl, rfl⟩
    exact ⟨x, by simp, hx, fun r hr => hr⟩
  induction d with
  | zero => intro i x E hi hx h; exact fin i x E hx h
  | succ d ih =>
    intro i x E hi hx h
    rcases h with h | ⟨n, P, E', rfl, ⟨n1, n2, hP⟩, hE⟩
    · exact fin i x E hx h
    have hi' : i < s.size := by omega
    have hbr := bt_range s (i : Int)
    obtain ⟨f, f1, f2, f3, f4⟩ := chr_both s (by omega) (i : Int) (by omega) (by omega)
    have next : ∀ z : List Int, z.map u8 = P → z.length ≤ 4 * n → (∀ r, Ev (fun k => sigilref4_Quote.l0 k s (x ++ z) ((i + n : Nat) : Int)) r → Ev (fun k => sigilref4_Quote.j1 k s x (i : Int) (bt s (i : Int)) f (bt s (i : Int) == 92 || bt s (i : Int) == 34)) r) →
        ∃ y : List Int, y.map u8 = x.map u8 ++ (P ++ E') ∧ y.length ≤ 4 * s.size ∧ ∀ r, Ev (fun k => sigilref4_Quote.l0 k s y (s.size : Int)) r → Ev (fun k => sigilref4_Quote.l0 k s x (i : Int)) r := by
      intro z hz hzl hr
      obtain ⟨y, y1, y2, y3⟩ := ih (i + n) (x ++ z) E' n2 (by rw [List.length_append]; omega) hE
      refine ⟨y, by rw [y1, List.map_append, hz, List.append_assoc], y2, fun r h => ref_step s hs i hi' x f f2 r (hr r (y3 r h))⟩
    have notsp : special (bt s (i : Int)) = false → (bt s (i : Int) == 92 || bt s (i : Int) == 34) = false ∧ bt s (i : Int) ≠ 10 ∧ bt s (i : Int) ≠ 13 ∧ bt s (i : Int) ≠ 9 := by
      intro sp
      simp only [special, Bool.or_eq_false_iff, beq_eq_false_iff_ne] at sp
      exact ⟨by rw [Bool.or_eq_false_iff, beq_eq_false_iff_ne, beq_eq_false_iff_ne]; omega, by omega, by omega, by omega⟩
    rcases hP with ⟨rfl, hc, hp1, hp2⟩ | ⟨rfl, sp, rfl⟩ | ⟨rfl, sp, ho1, ho2, rfl⟩
    · obtain rfl : f = (n : Int) := Ev.unique f1 hc
      have en := size_extract s i (i + n) n2
      have sp : special (bt s (i : Int)) = false := by
        by_cases c : n = 1
        · exact (hp1 c).2.2
        · have := hp2 (by omega)
          simp only [special, Bool.or_eq_false_iff, beq_eq_false_iff_ne]
          omega
      obtain ⟨q1, q2, q3, q4⟩ := notsp sp
      have q5 : ¬ bt s (i : Int) < 32 ∧ ¬ bt s (i : Int) = 127 := by
        by_cases c : n = 1
        · have := hp1 c; omega
        · have := hp2 (by omega); omega
      refine next (bytesOf (s.extract i (i + n))) (bytes_u8 _) (by rw [bytesOf_length]; omega) (fun r hr => Ev.step (fun k => ?_) hr)
      simp only [sigilref4_Quote.j1]
      rw [q1, if_neg Bool.false_ne_true, if_neg q2, if_neg q3, if_neg q4, if_neg q5.1, if_neg q5.2, if_neg (by omega), if_pos (by omega), w64 (by omega) (by omega), if_pos (by omega), if_pos (by omega), show ((i : Int)).toNat = i by omega, show ((i : Int) + (n : Int)).toNat = i + n by omega, if_pos (by omega)]
      rfl
    · have hlt : bt s (i : Int) < 128 := by
        simp only [special, Bool.or_eq_true, beq_iff_eq] at sp
        omega
      have hf1 : f = 1 := f4.2 hlt
      subst hf1
      by_cases c1 : (bt s (i : Int) == 92 || bt s (i : Int) == 34) = true
      · refine next [92, bt s (i : Int)] ?_ (by simp) (fun r hr => Ev.step (fun k => ?_) hr)
        · rw [Bool.or_eq_true, beq_iff_eq, beq_iff_eq] at c1
          rcases c1 with c1 | c1 <;> rw [c1] <;> rfl
        · simp only [sigilref4_Quote.j1]
          rw [if_pos c1, Option.bind_some, if_pos (by simp; omega), w64 (by omega) (by omega)]
          rfl
      · rw [Bool.or_eq_true, beq_iff_eq, beq_iff_eq] at c1
        have c1b : (bt s (i : Int) == 92 || bt s (i : Int) == 34) = false := by rw [Bool.or_eq_false_iff, beq_eq_false_iff_ne, beq_eq_false_iff_ne]; omega
        simp only [special, Bool.or_eq_true, beq_iff_eq] at sp
        by_cases c2 : bt s (i : Int) = 10
        · refine next [92, 110] (by rw [c2]; rfl) (by simp) (fun r hr => Ev.step (fun k => ?_) hr)
          simp only [sigilref4_Quote.j1]
          rw [c1b, if_neg Bool.false_ne_true, if_pos c2, Option.bind_some, if_pos (by simp; omega), w64 (by omega) (by omega)]
          rfl
        by_cases c3 : bt s (i : Int) = 13
        · refine next [92, 114] (by rw [c3]; rfl) (by simp) (fun r hr => Ev.step (fun k => ?_) hr)
          simp only [sigilref4_Quote.j1]
          rw [c1b, if_neg Bool.false_ne_true, if_neg c2, if_pos c3, Option.bind_some, if_pos (by simp; omega), w64 (by omega) (by omega)]
          rfl
        have c4 : bt s (i : Int) = 9 := by omega
        refine next [92, 116] (by rw [c4]; rfl) (by simp) (fun r hr => Ev.step (fun k => ?_) hr)
        simp only [sigilref4_Quote.j1]
        rw [c1b, if_neg Bool.false_ne_true, if_neg c2, if_neg c3, if_pos c4, Option.bind_some, if_pos (by simp; omega), w64 (by omega) (by omega)]
        rfl
    · obtain ⟨q1, q2, q3, q4⟩ := notsp sp
      obtain ⟨t, t1, t2, t3⟩ := oct_eq s (i : Int)
      refine next (bytesOf t) (by rw [bytes_u8, t2]) (by rw [bytesOf_length]; omega) (fun r hr => ?_)
      have go : ∀ k, (sigilref4_octal.f (bt s (i : Int))).bind (fun t242 => (if x.length + t242.size < 140737488355328 then (sigilref4_Quote.l0 k s (x ++ bytesOf t242) (wrap64 ((i : Int) + 1))) else (none))) = sigilref4_Quote.l0 k s (x ++ bytesOf t) ((i + 1 : Nat) : Int) := by
        intro k
        rw [t1, Option.bind_some, if_pos (by omega), w64 (by omega) (by omega)]
        rfl
      refine Ev.step (fun k => ?_) hr
      simp only [sigilref4_Quote.j1]
      rw [q1, if_neg Bool.false_ne_true, if_neg q2, if_neg q3, if_neg q4]
      by_cases c1 : bt s (i : Int) < 128
      · rcases ho1 c1 with c2 | c2
        · rw [if_pos c2]; exact go k
        · rw [if_neg (by omega), if_pos c2]; exact go k
      · have : f = 0 := Ev.unique f1 (ho2 c1)
        rw [if_neg (by omega), if_neg (by omega), if_pos this]; exact go k
/-- Quote, both. -/
theorem quote_both : ∃ r, Ev (fun k => scan_Quote.f k s) r ∧ Ev (fun k => sigilref4_Quote.f k s) r := by
  obtain ⟨E, g1, g2, g3⟩ := quote_ev s hs
  obtain ⟨y, y1, y2, y3⟩ := ref_enc s hs s.size 0 [] E (by omega) (by simp) g1
  refine ⟨_, g3, y3 _ (Ev.step (f := fun _ => some (⟨([34] ++ (E ++ [34])).toArray⟩ : ByteArray)) (fun k => ?_) (Ev.now _))⟩
  have e1 : (strOfNums y).size = y.length := strOfNums_size y
  have e2 := ByteArray.size_append (a := (⟨#[34]⟩ : ByteArray)) (b := strOfNums y)
  have e3 : (⟨#[34]⟩ : ByteArray).size = 1 := rfl
  simp only [sigilref4_Quote.l0]
  rw [if_neg (by omega), if_pos (by omega), if_pos (by omega)]
  congr 1
  apply ByteArray.ext
  apply Array.toList_inj.mp
  have e4 : (strOfNums y).data.toList = E := by
    show y.map u8 = E
    simpa using y1
  simp only [ByteArray.data_append, Array.toList_append, e4]
  simp
end
end Go.Proofs.YtabgnbbljjohdaaRDoor.Quot
