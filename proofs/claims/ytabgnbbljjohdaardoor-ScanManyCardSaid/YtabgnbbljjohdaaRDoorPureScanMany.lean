/- For every text, every number and every other text: scan.Tokens of the first text so many times over and the other behind it answers what the document's Tokens answers. No other condition. -/
import Derived.Test.YtabgnbbljjohdaaRDoorToks2
import Derived.Test.YtabgnbbljjohdaaRDoorAxM
namespace Go.Proofs.YtabgnbbljjohdaaRDoor.Pure
open Go.RowKit Go.Proofs.YtabgnbbljjohdaaRDoor.A Go.Proofs.YtabgnbbljjohdaaRDoorW.PrintWords Go.Proofs.YtabgnbbljjohdaaRDoor.U Go.Proofs.YtabgnbbljjohdaaRDoor.Toks

theorem strOfNums_size (l : List Int) : (strOfNums l).size = l.length := by
  show (strOfNums l).data.size = l.length
  simp [strOfNums]
theorem many_from (s : ByteArray) (hs : s.size ≤ 140737488351232) (n : Int) (hn : n ≤ 9223372036854775807) (t : ByteArray) (ht : t.size ≤ 140737488351232) (d : Nat) : ∀ (l : List Int) (i : Int), 65536 + s.size + 1 - l.length ≤ d → l.length ≤ 65536 + s.size → (l = [] ∨ s.size ≤ l.length) → 0 ≤ i →
    Ev (fun k => sigillaw4_ScanMany.l0 k s n t l i) true := by
  have fin : ∀ l : List Int, l.length ≤ 65536 + s.size → Ev (fun k => if (strOfNums l).size + t.size ≤ 9223372036854775807 then ((sigillaw4_scanned.f k ((strOfNums l) ++ t)).bind fun t258 => (some t258)) else (none)) true := by
    intro l hl
    have e := strOfNums_size l
    simp only [if_pos (show (strOfNums l).size + t.size ≤ 9223372036854775807 by omega)]
    exact Ev.bind (scanned _) (Ev.now _)
  induction d with
  | zero => intro l i hd hl _ _; omega
  | succ d ih =>
    intro l i hd hl hl2 hi
    by_cases c1 : i < n
    · by_cases c2 : (l.length : Int) ≤ 65536
      · by_cases c3 : s.toList = ([] : List UInt8)
        · refine Ev.step (fun k => ?_) (fin l hl)
          simp only [sigillaw4_ScanMany.l0]; rw [if_pos c1, if_pos c2, if_pos c3]
        · have hz : 1 ≤ s.size := by
            by_cases q : 1 ≤ s.size
            · exact q
            · exact absurd ((Unq.toList_nil s).2 (by omega)) c3
          have eb := bytesOf_length s
          refine Ev.step (f := fun k => sigillaw4_ScanMany.l0 k s n t (l ++ bytesOf s) (i + 1)) (fun k => ?_) (ih (l ++ bytesOf s) (i + 1) (by rw [List.length_append]; omega) (by rw [List.length_append]; omega) (.inr (by rw [List.length_append]; omega)) (by omega))
          simp only [sigillaw4_ScanMany.l0]
          have hroom : l.length + s.size < 140737488355328 := by
            rcases hl2 with h | h
            · rw [h]; simp; omega
            · omega
          rw [if_pos c1, if_pos c2, if_neg c3, if_pos hroom, w64 (by omega) (by omega)]
      · refine Ev.step (fun k => ?_) (fin l hl)
        simp only [sigillaw4_ScanMany.l0]; rw [if_pos c1, if_neg c2]
    · refine Ev.step (fun k => ?_) (fin l hl)
      simp only [sigillaw4_ScanMany.l0]; rw [if_neg c1]
theorem ScanMany : sigillaw4_ScanMany.Pure := by
  intro s n t hs hn ht
  refine Ev.rounds (g := fun k => sigillaw4_ScanMany.f k s n t) ?_
  refine Ev.congr (f := fun k => (sigillaw4_head.f k).bind fun q => if q = true then sigillaw4_ScanMany.l0 k s n t ([] : List Int) 0 else some false) (fun k => rfl) (Ev.bind head_ev ?_)
  simp only [if_true]
  have hn2 : n ≤ 9223372036854775807 := by
    have h := hn
    simp [Lit.wf] at h
    first | omega | exact h.2
  exact many_from s hs n hn2 t ht _ [] 0 (Nat.le_refl _) (by simp) (.inl rfl) (by omega)
theorem ScanMany2 (s : ByteArray) (hs : s.size ≤ 140737488351232) (n : Int) (hn : (Lit.int .i64 n).wf = true) (t : ByteArray) (ht : t.size ≤ 140737488351232) : ∃ k, sigillaw4_ScanMany.f k s n t = some true := ScanMany s n t hs hn ht
end Go.Proofs.YtabgnbbljjohdaaRDoor.Pure
