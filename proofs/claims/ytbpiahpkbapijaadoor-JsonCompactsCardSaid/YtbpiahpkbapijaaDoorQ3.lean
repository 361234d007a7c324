/- Lemmas and walks for the claim; no condition beyond what each states. -/
import Derived.Test.YtbpiahpkbapijaaDoorQ1
section
namespace Go.Proofs.YtbpiahpkbapijaaDoor.U
open Go.RowKit Go.Proofs.YtbpiahpkbapijaaDoorW.PrintWords
theorem w64 {n : Int} (h : -9223372036854775808 ≤ n) (h2 : n ≤ 9223372036854775807) : wrap64 n = n := by unfold wrap64; omega
theorem byte_all {P : Int → Prop} (h : ∀ n : Fin 256, P (n.val : Int)) {c : Int} (h0 : 0 ≤ c) (h1 : c ≤ 255) : P c := by
 have := h ⟨c.toNat, by omega⟩
 rwa [show ((c.toNat : Nat) : Int) = c by omega] at this
theorem size_extract (s : ByteArray) (a b : Nat) (h : b ≤ s.size) : (s.extract a b).size = b - a := by
 rw [ByteArray.size_extract]; omega
theorem bt_extract (s : ByteArray) (a b : Nat) (h : b ≤ s.size) (i : Int) (h0 : 0 ≤ i) (h1 : i < (b : Int) - (a : Int)) : bt (s.extract a b) i = bt s ((a : Int) + i) := by
 have hs := size_extract s a b h
 unfold bt
 rw [dif_pos (show i.toNat < (s.extract a b).size by omega), dif_pos (show ((a : Int) + i).toNat < s.size by omega)]
 have e : ((a : Int) + i).toNat = a + i.toNat := by omega
 simp only [e]
 rw [ByteArray.getElem_extract]
theorem ext_bt {s t : ByteArray} (hs : s.size = t.size) (h : ∀ i : Int, 0 ≤ i → i < (s.size : Int) → bt s i = bt t i) : s = t := by
 apply ByteArray.ext
 apply Array.ext
 ·exact hs
 ·intro i h1 h2
  have h1' : i < s.size := h1
  have h2' : i < t.size := h2
  have := h i (by omega) (by omega)
  unfold bt at this
  rw [dif_pos (by omega), dif_pos (by omega)] at this
  apply UInt8.toNat_inj.mp
  simp only [Int.toNat_natCast] at this
  have := Int.ofNat.inj this
  exact this
theorem Ev.unique {α : Type} {g : Nat → Option α} {a b : α} (h : Ev g a) (k : Ev g b) : a = b := by
 obtain ⟨K, h⟩ := h
 obtain ⟨K', k⟩ := k
 have h1 := h (max K K') (by omega)
 have h2 := k (max K K') (by omega)
 exact Option.some.inj (h1.symm.trans h2)
theorem Ev.some' {α : Type} {g : Nat → Option α} (r : α) (h : ∀ k, g k = some r) : Ev g r := ⟨0, fun k _ => h k⟩
theorem Ev.pair {α β : Type} {g : Nat → Option α} {f : Nat → Option β} {a : α} {b : β} (h : Ev g a) (k : Ev f b) : Ev (fun n => (g n).bind fun x => (f n).map fun y => (x, y)) (a, b) := by
 obtain ⟨K, h⟩ := h
 obtain ⟨K', k⟩ := k
 exact ⟨max K K', fun n hn => by simp [h n (by omega), k n (by omega)]⟩
end Go.Proofs.YtbpiahpkbapijaaDoor.U
end
