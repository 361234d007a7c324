/- How a slice of strings among a law's arguments is read where the bulk is bounded: one list of strings, none longer than the bulk. -/
import Derived.Test.YtabgnbbljjohdaaRDoorOpen
import Derived.Test.YtabgnbbljjohdaaRDoorRows
namespace Go.Proofs.YtabgnbbljjohdaaRDoor.U
open Go.ChangeShapes Go.WideShapes Go.Proofs.YtabgnbbljjohdaaRDoorW.PrintWords

theorem bulk_mem {H : Type} : ∀ (l : List (DataW H)) (d : DataW H), d ∈ l → Rows.uptoBulk d ≤ Rows.uptoBulkAll l
  | x :: l, d, h => by
    simp only [Rows.uptoBulkAll]
    rcases List.mem_cons.1 h with rfl | h
    · omega
    · have := bulk_mem l d h; omega
theorem open_strs_bulk {H : Type} {enc : TypeId × Value → H} {P : Program} {W : World} {base : Nat} {spare : Nat → Bool} {held : Bool} {t e : TypeId} {a : Option Addr} {len cap : Nat} {d : DataW H} {ps : List MemPlace} {ts : List TypeId} {ds : List (DataW H)} {j : Nat}
    (hsz : (DataW.weightsEach P ts ds).all (· ≤ reachBytes) = true) (ht : ts[j]? = some t) (hd : ds[j]? = some d) (hu : P.underlying t = some (.slice e)) (he : P.underlying e = some .string) (hc : P.cellsOf e = 1) {B : Nat} (hB : P.bytesOf e = B)
    (h : DataW.Trod enc P W base spare held t (.slice a len cap) d ps) :
    ∃ l : List ByteArray, l.length = len ∧ len ≤ cap ∧ (∀ s ∈ l, s.size ≤ 140737488351232) ∧ len * B ≤ 140737488351232 ∧ Kd.C Kd.string W a l.length l ∧ ∀ s ∈ l, s.size + 1 ≤ Rows.uptoBulk d := by
  obtain ⟨fuel, hf⟩ := h
  rcases open_strings hu he hc hf with ⟨hcs, hx⟩ | ⟨x, l, c, zs, hcs, _, hl, hm, hz, hx, hcell, _⟩
  · simp [Value.cells] at hcs
    obtain ⟨rfl, rfl, rfl⟩ := hcs
    exact ⟨[], rfl, Nat.le_refl _, fun s hs => by simp at hs, by simp, Kd.C_of_reads (d := ByteArray.empty) ⟨rfl, by simp, fun h => by simp at h⟩, fun s hs => by simp at hs⟩
  · simp [Value.cells] at hcs
    obtain ⟨rfl, rfl, rfl⟩ := hcs
    obtain ⟨hx, _⟩ := Prod.mk.inj hx
    subst hx
    have hl2 : len ≤ zs.length := by
      rw [hz]
      split
      · exact hl
      · exact Nat.le_refl _
    have hlen : (zs.take len).length = len := by rw [List.length_take]; omega
    have z := sized_slice hsz ht hd hu
    rw [hB] at z
    have h1 : (strs (H := H) (zs.take len)).length + (strs (H := H) (zs.drop len)).length = zs.length := by
      simp [strs]
      omega
    rw [h1] at z
    have hbulk : ∀ s ∈ zs.take len, s.size + 1 ≤ Rows.uptoBulk (DataW.slice (strs (H := H) (zs.take len)) (strs (zs.drop len))) := by
      intro s hs
      have hm2 : (DataW.lit (.string s.data.toList) : DataW H) ∈ strs (H := H) (zs.take len) := List.mem_map.2 ⟨s, hs, rfl⟩
      have h3 := bulk_mem _ _ hm2
      simp only [Rows.uptoBulk, Array.length_toList] at h3 ⊢
      have : s.data.size = s.size := rfl
      omega
    refine ⟨zs.take len, hlen, hl, ?_, Nat.le_trans (Nat.mul_le_mul_right _ hl2) z, ?_, hbulk⟩
    · intro s hs
      have hw : s.data.toList.length ∈ (DataW.slice (strs (H := H) (zs.take len)) (strs (zs.drop len))).weights P t := by
        simp only [DataW.weights, hu]
        refine List.mem_cons_of_mem _ (List.mem_append_left _ ?_)
        have key : ∀ (l : List ByteArray), s ∈ l → s.data.toList.length ∈ DataW.weightsAll P e (strs (H := H) l) := by
          intro l
          induction l with
          | nil => intro h; simp at h
          | cons y l ih =>
            intro h
            simp only [strs, List.map_cons, DataW.weightsAll, List.mem_append]
            rcases List.mem_cons.1 h with rfl | h
            · exact .inl (by simp [DataW.weights])
            · exact .inr (ih h)
        exact key _ hs
      have := List.all_eq_true.1 hsz _ (DataW.weights_mem_each ht hd _ hw)
      have h2 : s.data.toList.length ≤ reachBytes := by simpa using this
      rw [Array.length_toList] at h2
      exact h2
    · refine Kd.C_of_reads (d := ByteArray.empty) ⟨by rw [hlen], ?_, fun hn => ⟨x, rfl, fun i hi => ?_⟩⟩
      · rw [hlen]; simp only [maxLen] at hm; omega
      · rw [hlen] at hi
        rw [hcell i (by omega)]
        congr 2
        rw [List.getD_eq_getElem?_getD, List.getD_eq_getElem?_getD, List.getElem?_take, if_pos hi]
end Go.Proofs.YtabgnbbljjohdaaRDoor.U
