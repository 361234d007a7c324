/- For every list of texts, none longer than the bulk: scan.Quote writes what the document's Quote writes. No other condition. -/
import Derived.Test.YtabgnbbljjohdaaRDoorQuot2
namespace Go.Proofs.YtabgnbbljjohdaaRDoor.Pure
open Go.RowKit Go.Proofs.YtabgnbbljjohdaaRDoor.A Go.Proofs.YtabgnbbljjohdaaRDoorW.PrintWords Go.Proofs.YtabgnbbljjohdaaRDoor.U Go.Proofs.YtabgnbbljjohdaaRDoor.Quot

theorem quotes_rows (l : List ByteArray) (hl : l.length ≤ 140737488355328) (hs : ∀ s ∈ l, s.size ≤ 1048576) (d : Nat) : ∀ i : Int, 0 ≤ i → i ≤ l.length → (l.length : Int) - i = d →
    Ev (fun k => sigillaw4_ScanQuotes.l0 k l i) true := by
  induction d with
  | zero =>
    intro i h0 h1 hd
    exact Ev.step (f := fun _ => some true) (fun k => by simp only [sigillaw4_ScanQuotes.l0]; rw [if_neg (by omega)]) (Ev.now _)
  | succ d ih =>
    intro i h0 h1 hd
    have hm : rdOf ByteArray.empty l i ∈ l := by
      have hlt : i.toNat < l.length := by omega
      unfold rdOf
      rw [List.getD_eq_getElem?_getD, List.getElem?_eq_getElem hlt]
      exact List.getElem_mem hlt
    obtain ⟨r, g1, g2⟩ := quote_both (rdOf ByteArray.empty l i) (by have := hs _ hm; omega)
    refine Ev.step (f := fun k => (scan_Quote.f k (rdOf ByteArray.empty l i)).bind fun t259 => ((sigilref4_Quote.f k (rdOf ByteArray.empty l i)).bind fun t261 => (if t259.toList = t261.toList then (sigillaw4_ScanQuotes.l0 k l (i + 1)) else (some false)))) (fun k => ?_) (Ev.bind g1 (Ev.bind g2 ?_))
    · simp only [sigillaw4_ScanQuotes.l0]; rw [if_pos (by omega), if_pos h0, w64 (by omega) (by omega)]
    · simp only [if_true]
      exact ih (i + 1) (by omega) (by omega) (by omega)
theorem a_list : (⟨#[34, 97, 34]⟩ : ByteArray).toList = ([34, 97, 34] : List UInt8) := by rw [ByteArray.toList_eq]
theorem quote_a : ∃ t, Ev (fun k => scan_Quote.f k (⟨#[97]⟩ : ByteArray)) t ∧ t.toList = ([34, 97, 34] : List UInt8) := by
  refine ⟨⟨#[34, 97, 34]⟩, Ev.of (scan_Quote.mono _) (k := 4) ?_, a_list⟩
  have e1 : (⟨#[97]⟩ : ByteArray).toList ≠ ([] : List UInt8) := by rw [ByteArray.toList_eq]; decide
  have e2 : bt (⟨#[97]⟩ : ByteArray) 0 = 97 := rfl
  have e3 : (⟨#[97]⟩ : ByteArray).size = 1 := rfl
  have e4 : ((⟨#[97]⟩ : ByteArray).extract 1 1) = (⟨#[]⟩ : ByteArray) := by
    have := size_extract (⟨#[97]⟩ : ByteArray) 1 1 (by rw [e3]; omega)
    exact ext_bt (by rw [this]; rfl) (fun i h0 h1 => by omega)
  simp only [scan_Quote.f, scan_Quote.l0]
  rw [e2, e3, e4, written_plain 97 rfl, Option.bind_some, if_pos (by simp), if_neg e1, if_pos (by omega), if_pos none_list, if_neg (by omega), if_neg (by omega), if_neg (by omega), if_pos (by show 2 + 0 + 8 ≤ 140737488355328; omega), if_pos none_list]
  rfl
theorem ScanQuotes (l : List ByteArray) (hl : l.length ≤ 140737488355328) (_ : ∀ s ∈ l, s.size ≤ 140737488355328) (hs : ∀ s ∈ l, s.size ≤ 1048576) : ∃ k, sigillaw4_ScanQuotes.f k l = some true := by
  refine Ev.rounds (g := fun k => sigillaw4_ScanQuotes.f k l) ?_
  obtain ⟨t, h1, h2⟩ := quote_a
  refine Ev.congr (f := fun k => (scan_Quote.f k (⟨#[97]⟩ : ByteArray)).bind fun t257 => (if t257.toList = ([34, 97, 34] : List UInt8) then (sigillaw4_ScanQuotes.l0 k l 0) else (some false))) (fun k => rfl) (Ev.bind h1 ?_)
  simp only [if_pos h2]
  exact quotes_rows l hl hs l.length 0 (by omega) (by omega) (by omega)
end Go.Proofs.YtabgnbbljjohdaaRDoor.Pure
