/- How a slice of ints among a law's arguments is read: one list of numbers, each of its kind, no longer than its weight allows. -/
import Derived.Test.YtabgnbbljjohdaaRDoorOpen
namespace Go.Proofs.YtabgnbbljjohdaaRDoor.U
open Go.ChangeShapes Go.WideShapes Go.Proofs.YtabgnbbljjohdaaRDoorW.PrintWords

theorem open_nums {H : Type} {enc : TypeId × Value → H} {P : Program} {W : World} {base : Nat} {spare : Nat → Bool} {held : Bool} {t e : TypeId} {a : Option Addr} {len cap : Nat} {d : DataW H} {ps : List MemPlace} {ts : List TypeId} {ds : List (DataW H)} {j : Nat}
    (hsz : (DataW.weightsEach P ts ds).all (· ≤ reachBytes) = true) (ht : ts[j]? = some t) (hd : ds[j]? = some d) (hu : P.underlying t = some (.slice e)) (he : P.underlying e = some (.int .i64)) (hc : P.cellsOf e = 1) {B : Nat} (hB : P.bytesOf e = B)
    (h : DataW.Trod enc P W base spare held t (.slice a len cap) d ps) :
    ∃ l : List Int, l.length = len ∧ len ≤ cap ∧ (∀ x ∈ l, (Lit.int .i64 x).wf = true) ∧ len * B ≤ 140737488351232 ∧ Kd.C (Kd.int .i64) W a l.length l := by
  obtain ⟨fuel, hf⟩ := h
  rcases open_ints hu he hc hf with ⟨hcs, hx⟩ | ⟨x, l, c, zs, hcs, _, hl, hm, hz, hx, hcell, hwf⟩
  · simp [Value.cells] at hcs
    obtain ⟨rfl, rfl, rfl⟩ := hcs
    exact ⟨[], rfl, Nat.le_refl _, fun s hs => by simp at hs, by simp, Kd.C_of_reads (d := (0 : Int)) ⟨rfl, by simp, fun h => by simp at h⟩⟩
  · simp [Value.cells] at hcs
    obtain ⟨rfl, rfl, rfl⟩ := hcs
    obtain ⟨hx, _⟩ := Prod.mk.inj hx
    subst hx
    have hl2 : len ≤ zs.length := by
      rw [hz]
      split
      · exact hl
      · exact Nat.le_refl _
    have hlen : (zs.take len).length = len := by rw [List.length_take]; omega
    have z := sized_slice hsz ht hd hu
    rw [hB] at z
    have h1 : (lits (H := H) .i64 (zs.take len)).length + (lits (H := H) .i64 (zs.drop len)).length = zs.length := by
      simp [lits]
      omega
    rw [h1] at z
    refine ⟨zs.take len, hlen, hl, fun s hs => hwf s (List.mem_of_mem_take hs), Nat.le_trans (Nat.mul_le_mul_right _ hl2) z, ?_⟩
    refine Kd.C_of_reads (d := (0 : Int)) ⟨by rw [hlen], ?_, fun hn => ⟨x, rfl, fun i hi => ?_⟩⟩
    · rw [hlen]; simp only [maxLen] at hm; omega
    · rw [hlen] at hi
      rw [hcell i (by omega)]
      congr 2
      rw [List.getD_eq_getElem?_getD, List.getD_eq_getElem?_getD, List.getElem?_take, if_pos hi]
end Go.Proofs.YtabgnbbljjohdaaRDoor.U
