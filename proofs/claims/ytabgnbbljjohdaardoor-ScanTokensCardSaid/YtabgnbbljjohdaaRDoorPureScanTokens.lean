/- For every list of texts: scan.Tokens answers what the document's Tokens answers. No other condition. -/
import Derived.Test.YtabgnbbljjohdaaRDoorToks2
namespace Go.Proofs.YtabgnbbljjohdaaRDoor.Pure
open Go.RowKit Go.Proofs.YtabgnbbljjohdaaRDoor.A Go.Proofs.YtabgnbbljjohdaaRDoorW.PrintWords Go.Proofs.YtabgnbbljjohdaaRDoor.U Go.Proofs.YtabgnbbljjohdaaRDoor.Toks

theorem tokens_rows (l : List ByteArray) (hl : l.length ≤ 140737488355328) (d : Nat) : ∀ i : Int, 0 ≤ i → i ≤ l.length → (l.length : Int) - i = d →
    Ev (fun k => sigillaw4_ScanTokens.l0 k l i) true := by
  induction d with
  | zero =>
    intro i h0 h1 hd
    exact Ev.step (f := fun _ => some true) (fun k => by simp only [sigillaw4_ScanTokens.l0]; rw [if_neg (by omega)]) (Ev.now _)
  | succ d ih =>
    intro i h0 h1 hd
    refine Ev.step (f := fun k => (sigillaw4_scanned.f k (rdOf ByteArray.empty l i)).bind fun t => if t = true then sigillaw4_ScanTokens.l0 k l (wrap64 (i + 1)) else some false) (fun k => ?_) (Ev.bind (scanned _) ?_)
    · simp only [sigillaw4_ScanTokens.l0]; rw [if_pos (by omega), if_pos h0]
    · rw [w64 (by omega) (by omega)]
      simp only [if_true]
      exact ih (i + 1) (by omega) (by omega) (by omega)
theorem ScanTokens (l : List ByteArray) (hl : l.length ≤ 140737488355328) (_hs : ∀ s ∈ l, s.size ≤ 140737488355328) : ∃ k, sigillaw4_ScanTokens.f k l = some true := by
  refine Ev.rounds (g := fun k => sigillaw4_ScanTokens.f k l) ?_
  refine Ev.congr (f := fun k => (sigillaw4_head.f k).bind fun t => if t = true then sigillaw4_ScanTokens.l0 k l 0 else some false) (fun k => rfl) (Ev.bind head_ev ?_)
  simp only [if_true]
  exact tokens_rows l hl l.length 0 (by omega) (by omega) (by omega)
end Go.Proofs.YtabgnbbljjohdaaRDoor.Pure
