/- For every list of texts of at most 2^47 - 4096 bytes each: scan.Unquote answers what the document's Unquote answers. No other condition. -/
import Derived.Test.YtabgnbbljjohdaaRDoorUnq
namespace Go.Proofs.YtabgnbbljjohdaaRDoor.Pure
open Go.RowKit Go.Proofs.YtabgnbbljjohdaaRDoor.A Go.Proofs.YtabgnbbljjohdaaRDoorW.PrintWords Go.Proofs.YtabgnbbljjohdaaRDoor.U Go.Proofs.YtabgnbbljjohdaaRDoor.Unq

theorem rd_mem2 (l : List ByteArray) (i : Int) (h0 : 0 ≤ i) (h1 : i < (l.length : Int)) : rdOf ByteArray.empty l i ∈ l := by
  unfold rdOf
  rw [List.getD_eq_getElem?_getD, List.getElem?_eq_getElem (by omega)]
  exact List.getElem_mem _
theorem unquotes_from (l : List ByteArray) (hl : l.length ≤ 140737488355328) (hs : ∀ s ∈ l, s.size ≤ 140737488355328) (d : Nat) : ∀ i : Int, 0 ≤ i → i ≤ l.length → (l.length : Int) - i = d →
    Ev (fun k => sigillaw4_ScanUnquotes.l0 k l i) true := by
  induction d with
  | zero =>
    intro i h0 h1 hd
    exact Ev.step (f := fun _ => some true) (fun k => by simp only [sigillaw4_ScanUnquotes.l0]; rw [if_neg (by omega)]) (Ev.now _)
  | succ d ih =>
    intro i h0 h1 hd
    obtain ⟨b, hb1, hb2⟩ := unquote_both (rdOf ByteArray.empty l i) (hs _ (rd_mem2 l i h0 (by omega)))
    refine Ev.step (f := fun k => (scan_Unquote.f k (rdOf ByteArray.empty l i)).bind fun t => (sigilref4_Unquote.f k (rdOf ByteArray.empty l i)).bind fun u => if t.1.toList = u.1.toList then (if t.2 = u.2 then sigillaw4_ScanUnquotes.l0 k l (wrap64 (i + 1)) else some false) else some false) (fun k => ?_) (Ev.bind hb1 (Ev.bind hb2 ?_))
    · simp only [sigillaw4_ScanUnquotes.l0]; rw [if_pos (by omega), if_pos h0]
    · rw [w64 (by omega) (by omega)]
      simp only [if_true]
      exact ih (i + 1) (by omega) (by omega) (by omega)
set_option maxRecDepth 100000 in
theorem unquote1 : (scan_Unquote.f 20 (⟨#[39, 97, 92, 120, 52, 49, 39]⟩ : ByteArray)).map (fun r => (r.1.data.toList, r.2)) = some ([97, 65], 0) := by decide +kernel
theorem ScanUnquotes (l : List ByteArray) (hl : l.length ≤ 140737488355328) (hs : ∀ s ∈ l, s.size ≤ 140737488355328) : ∃ k, sigillaw4_ScanUnquotes.f k l = some true := by
  refine Ev.rounds (g := fun k => sigillaw4_ScanUnquotes.f k l) ?_
  refine Ev.congr (f := fun k => (scan_Unquote.f k (⟨#[39, 97, 92, 120, 52, 49, 39]⟩ : ByteArray)).bind fun b => if b.1.toList = ([97, 65] : List UInt8) then sigillaw4_ScanUnquotes.j0 k l (b.2 != 0) else sigillaw4_ScanUnquotes.j0 k l true) (fun k => rfl) ?_
  obtain ⟨r, hr, hr2⟩ := Option.map_eq_some_iff.1 unquote1
  obtain ⟨h1, h2⟩ := Prod.mk.inj hr2
  refine Ev.bind (Ev.of (scan_Unquote.mono _) hr) ?_
  have h3 : r.1.toList = [97, 65] := by rw [ByteArray.toList_eq]; exact h1
  simp only [if_pos h3, h2]
  refine Ev.step (f := fun k => sigillaw4_ScanUnquotes.l0 k l 0) (fun k => by simp [sigillaw4_ScanUnquotes.j0]) ?_
  exact unquotes_from l hl hs l.length 0 (by omega) (by omega) (by omega)
end Go.Proofs.YtabgnbbljjohdaaRDoor.Pure
