/- Lemmas and walks for the claim; no condition beyond what each states. -/
import Derived.Test.YtbpiahpkbapijaaDoorQ4
import Derived.Test.YtbpiahpkbapijaaDoorQ4
import Derived.WalkLawsBesides
import Derived.Maps.AppendAt
import Derived.ArgAppend
import Derived.Deep.AppendLies
import Derived.SizedLaws
import Derived.SliceStrings
import Derived.ChangeSlices
import Derived.Test.YtbpiahpkbapijaaDoorRows
import Derived.OpenShut
import Derived.ChangeArms
import Derived.LaidMore
import Derived.Deep.DeepHandedRow
import Derived.Lib.LaidTab
import Derived.Test.YtbpiahpkbapijaaDoorCards
import Derived.Test.YtbpiahpkbapijaaDoorTie
import Derived.WalkKit
import Derived.ProofKit
import Derived.ShutString
import Derived.ChangeOld
import Derived.Below
import Derived.Carry
section
namespace Go.Proofs.YtbpiahpkbapijaaDoor.A
open Go.RowKit Go.Proofs.YtbpiahpkbapijaaDoorW.PrintWords Go.Proofs.YtbpiahpkbapijaaDoorW.PrintLast Go.Proofs.YtbpiahpkbapijaaDoorW.PrintMore
set_option linter.unusedVariables false
set_option linter.unusedSimpArgs false
theorem w64_in (n : Int) (h : -9223372036854775808 ≤ n ∧ n ≤ 9223372036854775807) : wrap64 n = n := by unfold wrap64; omega
def xc (x : S31) (j : Nat) : Value := if j % 3 = 0 then .int .i64 x.f0 else if j % 3 = 1 then .int .i64 x.f1 else .string x.f2
theorem xc_one (x : S31) (j : Nat) : (xc x j).oneCell' = true := by
  unfold xc
  split
  · rfl
  · split <;> rfl
theorem xc_per (x : S31) (n j : Nat) : xc x (n * 3 + j) = xc x j := by
  have : (n * 3 + j) % 3 = j % 3 := by omega
  unfold xc
  rw [this]
def repx (x : S31) (n : Nat) : List Value := (List.range (n * 3)).map (xc x)
theorem repx_length (x : S31) (n : Nat) : (repx x n).length = n * 3 := by unfold repx; rw [List.length_map, List.length_range]
theorem repx_get (x : S31) (n j : Nat) (h : j < n * 3) : (repx x n)[j]? = some (xc x j) := by
  unfold repx
  rw [List.getElem?_map, List.getElem?_range h]
  rfl
theorem repx_lt {x : S31} {n j : Nat} {u : Value} (h : (repx x n)[j]? = some u) : j < n * 3 ∧ u = xc x j := by
  have h1 := (List.getElem?_eq_some_iff.1 h).1
  rw [repx_length] at h1
  rw [repx_get x n j h1] at h
  exact ⟨h1, (Option.some.inj h).symm⟩
theorem repx_append (x : S31) (n m : Nat) : repx x n ++ repx x m = repx x (n + m) := by
  apply List.ext_getElem?
  intro j
  by_cases h : j < n * 3
  · rw [List.getElem?_append_left (by rw [repx_length]; exact h), repx_get x n j h, repx_get x (n + m) j (by omega)]
  · rw [List.getElem?_append_right (by rw [repx_length]; omega), repx_length]
    by_cases h2 : j < (n + m) * 3
    · rw [repx_get x m (j - n * 3) (by omega), repx_get x (n + m) j h2, ← xc_per x n (j - n * 3), show n * 3 + (j - n * 3) = j by omega]
    · rw [List.getElem?_eq_none (by rw [repx_length]; omega), List.getElem?_eq_none (by rw [repx_length]; omega)]
structure Xs (H : Nat) (x : S31) (w w' : World) : Prop where
  low : Below H w w'
  keep : ∀ g t cur, H ≤ g → w.heap[g]? = some (.cells cur t (0, 0)) → ∃ cur' : Array Value, w'.heap[g]? = some (.cells cur' t (0, 0)) ∧ cur'.size = cur.size ∧ ∀ j, cur[j]? = some (xc x j) → cur'[j]? = some (xc x j)
section
variable {H : Nat} {x : S31} {w w' w1 : World} {g cap n m : Nat} {v : Value}
theorem Xs.refl (H : Nat) (x : S31) (w : World) : Xs H x w w := ⟨Below.refl H w, fun _ _ cur _ h => ⟨cur, h, rfl, fun _ h => h⟩⟩
theorem Xs.trans (h : Xs H x w w1) (k : Xs H x w1 w') : Xs H x w w' := ⟨Below.trans h.low k.low, fun g t cur hg hc => by
  obtain ⟨c1, a1, a2, a3⟩ := h.keep g t cur hg hc
  obtain ⟨c2, b1, b2, b3⟩ := k.keep g t c1 hg a1
  exact ⟨c2, b1, b2.trans a2, fun j hj => b3 j (a3 j hj)⟩⟩
theorem Xs.below (h : Below w.heap.size w w') (hH : H ≤ w.heap.size) : Xs H x w w' := ⟨⟨h.os, h.tape, h.output, h.size, fun k hk => h.block k (by omega)⟩, fun g t cur _ hc => ⟨cur, (h.block g (blk_lt hc)).trans hc, rfl, fun _ h => h⟩⟩
theorem Xs.grown (h : w.grownBy w' none) (hH : H ≤ w.heap.size) : Xs H x w w' := Xs.below ⟨h.os, h.tape, h.output, h.size, fun k hk => h.block k hk (by simp)⟩ hH
theorem Xs.size (h : Xs H x w w') : w.heap.size ≤ w'.heap.size := h.low.size
theorem Xs.set {cur : Array Value} {j : Nat} {t : TypeId} (hg : H ≤ g) (hc : w.heap[g]? = some (.cells cur t (0, 0))) (hj : j < cur.size) : Xs H x w (w.setCell ⟨g, j, none⟩ (xc x j)) := by
  refine ⟨⟨rfl, rfl, rfl, by simp [World.setCell], fun k hk => Below.heap_setCell w ⟨g, j, none⟩ _ k (by show k ≠ g; omega)⟩, fun g2 t2 c2 _ h2 => ?_⟩
  by_cases e : g2 = g
  · subst e
    rw [hc] at h2
    injection h2 with h2
    injection h2 with h2 h3 _
    subst h2; subst h3
    refine ⟨_, blk_put hc j _ rfl, by simp, fun i hi => ?_⟩
    rw [Array.getElem?_setIfInBounds]
    by_cases e : j = i
    · subst e; rw [if_pos rfl, if_pos hj]
    · rw [if_neg e]; exact hi
  · exact ⟨c2, (Below.heap_setCell w ⟨g, j, none⟩ _ g2 e).trans h2, rfl, fun _ h => h⟩
def LX (w : World) (g cap n : Nat) (x : S31) : Prop := ∃ cur : Array Value, w.heap[g]? = some (.cells cur 31 (0, 0)) ∧ cur.size = cap * 3 ∧ n ≤ cap ∧ ∀ j, j < n * 3 → cur[j]? = some (xc x j)
theorem LX.xs (h : LX w g cap n x) (hg : H ≤ g) (k : Xs H x w w') : LX w' g cap n x := by
  obtain ⟨cur, h1, h2, h3, h4⟩ := h
  obtain ⟨c, k1, k2, k3⟩ := k.keep g 31 cur hg h1
  exact ⟨c, k1, k2.trans h2, h3, fun j hj => k3 j (h4 j hj)⟩
theorem LX.below (h : LX w g cap n x) (k : Below w.heap.size w w') : LX w' g cap n x := by
  obtain ⟨cur, h1, h2⟩ := h
  exact ⟨cur, (k.block g (blk_lt h1)).trans h1, h2⟩
theorem LX.cell (h : LX w g cap n x) (j : Nat) (hj : j < n * 3) : w.cell? ⟨g, j, none⟩ = some (xc x j) := by
  obtain ⟨cur, h1, _, _, h4⟩ := h
  exact (blk_cell h1 j).trans (h4 j hj)
def SV (H : Nat) (w : World) (v : Value) (n : Nat) (x : S31) : Prop := (v = .slice none 0 0 ∧ n = 0) ∨ ∃ g cap, v = .slice (some ⟨g, 0, none⟩) n cap ∧ H ≤ g ∧ cap ≤ maxLen ∧ LX w g cap n x
theorem SV.xs (h : SV H w v n x) (k : Xs H x w w') : SV H w' v n x := by
  rcases h with h | ⟨g, cap, h1, h2, h3, h4⟩
  · exact .inl h
  · exact .inr ⟨g, cap, h1, h2, h3, h4.xs h2 k⟩
theorem SV.below (h : SV H w v n x) (k : Below w.heap.size w w') : SV H w' v n x := by
  rcases h with h | ⟨g, cap, h1, h2, h3, h4⟩
  · exact .inl h
  · exact .inr ⟨g, cap, h1, h2, h3, h4.below k⟩
theorem SV.mono {H' : Nat} (h : SV H w v n x) (k : H' ≤ H) : SV H' w v n x := by
  rcases h with h | ⟨g, cap, h1, h2, h3, h4⟩
  · exact .inl h
  · exact .inr ⟨g, cap, h1, Nat.le_trans k h2, h3, h4⟩
theorem SV.slice (h : SV H w v n x) : ∃ A c, v = .slice A n c := by
  rcases h with ⟨h, rfl⟩ | ⟨g, cap, h1, _⟩
  · exact ⟨_, _, h⟩
  · exact ⟨_, _, h1⟩
theorem SV.of_own {B : Nat} (h : w.ownsRow B 31 3 v n (repx x n)) (hB : H ≤ B) : SV H w v n x := by
  rcases h.2 with h | ⟨g, cap, cur, h1, h2, h3, h4, h5, h6, h7⟩
  · exact .inl h
  · refine .inr ⟨g, cap, h1, by omega, h5, cur, h3, h6, h4, fun j hj => ?_⟩
    have := repx_get x n j hj
    rw [← h7, List.getElem?_take, if_pos hj, Array.getElem?_toList] at this
    exact this
theorem app_x {A : Addr} {c : Nat} (hH : H ≤ w.heap.size) (hv : SV H w v n x) (hm : 0 < m) (hy : ∀ j, j < m * 3 → w.cell? (A.add j) = some (xc x j)) (hb : (n + m) * 32 ≤ 140737488355328) (ty : TypeId) :
    ∃ v' w', (Builtin.append_ #[25, 25] ty #[v, .slice (some A) m c]).run Tryd.prog w = .ok v' w' ∧ SV H w' v' (n + m) x ∧ Xs H x w w' := by
  obtain ⟨i0, hi, hzz⟩ := Option.map_eq_some_iff.1 infoTok
  simp only [Prod.mk.injEq] at hzz
  obtain ⟨hz0, hz1, hz2⟩ := hzz
  have hnews : ∀ j u, (repx x m)[j]? = some u → w.cell? (A.add j) = some u := fun j u hu => by
    obtain ⟨h1, rfl⟩ := repx_lt hu
    exact hy j h1
  have h1 : ∀ u ∈ repx x m, u.oneCell' = true := fun u hu => by
    obtain ⟨j, hj⟩ := List.getElem?_of_mem hu
    rw [(repx_lt hj).2]
    exact xc_one x j
  have hmax : n + m ≤ maxLen := by simp only [maxLen]; omega
  rcases hv with ⟨rfl, rfl⟩ | ⟨g, cap, rfl, hg, hcm, cur, hc, hcs, hnc, hcur⟩
  · obtain ⟨v', w', hr, ho, hgr, _, _⟩ := run_append_own_at (P := Tryd.prog) w H 25 ty 31 i0 _ 3 32 Tryd.underlying25 hi hz0 hz1 hz2 rfl (by decide) (.slice none 0 0) 0 [] ⟨rfl, .inl ⟨rfl, rfl⟩⟩ A m c (repx x m) (repx_length x m) hnews h1 hmax hb hH
    refine ⟨v', w', hr, SV.of_own (B := H) ?_ (Nat.le_refl _), Xs.grown hgr hH⟩
    rw [List.nil_append] at ho
    rw [Nat.zero_add] at ho ⊢
    exact ho
  · by_cases hroom : n + m ≤ cap
    · have hfit : n * i0.size + (repx x m).length ≤ cur.size := by rw [hz1, repx_length, hcs]; omega
      have hr := run_append_room (P := Tryd.prog) w 25 ty 31 i0 Tryd.underlying25 hi g n cap cur hc A m c (repx x m) (by rw [repx_length, hz1]) hnews h1 hroom hfit
      rw [hz1, repx_length] at hr
      obtain ⟨nw, hnw⟩ : ∃ nw : Array Value, nw = (cur.toList.take (n * 3) ++ repx x m ++ cur.toList.drop (n * 3 + m * 3)).toArray := ⟨_, rfl⟩
      rw [← hnw] at hr
      have hsz : nw.size = cur.size := by
        rw [hnw]
        simp only [List.size_toArray, List.length_append, List.length_take, List.length_drop, repx_length, Array.length_toList]
        omega
      have hget : ∀ j, nw[j]? = if j < n * 3 then cur[j]? else if j < n * 3 + m * 3 then some (xc x j) else cur[j]? := by
        intro j
        rw [hnw, List.getElem?_toArray]
        have l1 : (cur.toList.take (n * 3)).length = n * 3 := by rw [List.length_take, Array.length_toList]; omega
        by_cases a : j < n * 3
        · rw [if_pos a, List.append_assoc, List.getElem?_append_left (by omega), List.getElem?_take, if_pos a, Array.getElem?_toList]
        · rw [if_neg a]
          by_cases b : j < n * 3 + m * 3
          · rw [if_pos b, List.getElem?_append_left (by rw [List.length_append, l1, repx_length]; omega), List.getElem?_append_right (by omega), l1, repx_get x m _ (by omega), ← xc_per x n (j - n * 3), show n * 3 + (j - n * 3) = j by omega]
          · rw [if_neg b, List.getElem?_append_right (by rw [List.length_append, l1, repx_length]; omega), List.length_append, l1, repx_length, List.getElem?_drop, show n * 3 + m * 3 + (j - (n * 3 + m * 3)) = j by omega, Array.getElem?_toList]
      have hh := setRow_heap w g cur nw 31 (0, 0) hc
      refine ⟨_, _, hr, .inr ⟨g, cap, rfl, hg, hcm, nw, hh, hsz.trans hcs, hroom, fun j hj => ?_⟩, ⟨⟨rfl, rfl, rfl, by simp, fun k hk => setRow_other w g k nw (by omega)⟩, fun g2 t2 c2 _ h2 => ?_⟩⟩
      · rw [hget]
        by_cases a : j < n * 3
        · rw [if_pos a]; exact hcur j a
        · rw [if_neg a, if_pos (by omega)]
      · by_cases e : g2 = g
        · subst e
          rw [hc] at h2
          injection h2 with h2
          injection h2 with h2 h3 _
          subst h2; subst h3
          refine ⟨nw, hh, hsz, fun j hj => ?_⟩
          rw [hget]
          split
          · exact hj
          · split
            · rfl
            · exact hj
        · exact ⟨c2, (setRow_other w g g2 nw e).trans h2, rfl, fun _ h => h⟩
    · obtain ⟨v', w', hr, ho, hgr⟩ := run_append_arg_grows (P := Tryd.prog) w 25 ty 31 i0 _ 3 32 Tryd.underlying25 hi hz0 hz1 hz2 rfl (by decide) ⟨g, 0, none⟩ n cap (repx x n) (repx_length x n) (fun j u hu => by
        obtain ⟨h1, rfl⟩ := repx_lt hu
        rw [Addr.add_lit, Nat.zero_add]
        exact (blk_cell hc j).trans (hcur j h1)) A m c (repx x m) (repx_length x m) hnews (by omega) hmax hb
      rw [repx_append] at ho
      exact ⟨v', w', hr, SV.of_own ho hH, Xs.grown hgr hH⟩
theorem own_bel {B e size n : Nat} {xs : List Value} (h : w.ownsRow B e size v n xs) (hb : Below w.heap.size w w') : w'.ownsRow B e size v n xs :=
  ⟨h.1, h.2.imp id (fun ⟨g, cap, cur, a, b, c, d⟩ => ⟨g, cap, cur, a, b, (hb.block g (blk_lt c)).trans c, d⟩)⟩
theorem bel_tr {B : Nat} (h : Below B w w1) (hs : B ≤ w1.heap.size) (hb : Below w1.heap.size w1 w') : Below B w w' :=
  Below.trans h ⟨hb.os, hb.tape, hb.output, hb.size, fun k hk => hb.block k (by omega)⟩
end
theorem SV.at_ {H : Nat} {w : World} {A : Option Addr} {n c : Nat} {x : S31} (h : SV H w (.slice A n c) n x) (j : Int) (h0 : 0 ≤ j) (h1 : j < n) : ∃ ad, A = some ad ∧ w.cell? (ad.add (j.toNat * 3)) = some (.int .i64 x.f0) ∧
    w.cell? ⟨(ad.add (j.toNat * 3)).block, (ad.add (j.toNat * 3)).off + 1, none⟩ = some (.int .i64 x.f1) ∧ w.cell? ⟨(ad.add (j.toNat * 3)).block, (ad.add (j.toNat * 3)).off + 2, none⟩ = some (.string x.f2) := by
  rcases h with ⟨_, h⟩ | ⟨g, cap, h, _, _, hl⟩
  · omega
  · injection h with hA
    have e : ∀ i, i < 3 → w.cell? ⟨g, j.toNat * 3 + i, none⟩ = some (xc x i) := fun i hi => by
      rw [← xc_per x j.toNat i]
      exact hl.cell (j.toNat * 3 + i) (by omega)
    refine ⟨_, hA, ?_, ?_, ?_⟩
    · rw [Addr.add_lit, Nat.zero_add]; exact e 0 (by decide)
    · rw [Addr.add_lit, Nat.zero_add]; exact e 1 (by decide)
    · rw [Addr.add_lit, Nat.zero_add]; exact e 2 (by decide)
theorem own1_at {B e n c : Nat} {w : World} {A : Option Addr} {xs : List Value} (h : w.ownsRow B e 1 (.slice A n c) n xs) (q : Int) (h0 : 0 ≤ q) (h1 : q < n) : ∃ ad, A = some ad ∧ w.cell? (ad.add q.toNat) = xs[q.toNat]? := by
  rcases h.2 with ⟨_, h⟩ | ⟨g, cap, cur, h, _, hg, _, _, _, ht⟩
  · omega
  · injection h with hA
    refine ⟨_, hA, ?_⟩
    rw [Addr.add_lit, Nat.zero_add, blk_cell hg, ← ht, List.getElem?_take, if_pos (by omega), Array.getElem?_toList]
def LR (H : Nat) (w : World) (v : Value) (n j : Nat) (x : S31) : Prop := (v = .slice none 0 0 ∧ n = 0) ∨ ∃ g cap, v = .slice (some ⟨g, 0, none⟩) n cap ∧ H ≤ g ∧ n ≤ cap ∧ cap ≤ maxLen ∧ LX w g cap j x
theorem LR.of_own {H : Nat} {w : World} {v : Value} {n : Nat} {xs : List Value} (h : w.ownsRow H 31 3 v n xs) (x : S31) : LR H w v n 0 x := by
  rcases h.2 with h | ⟨g, cap, cur, h1, h2, h3, h4, h5, h6, _⟩
  · exact .inl h
  · exact .inr ⟨g, cap, h1, h2, h4, h5, cur, h3, h6, Nat.zero_le _, fun j hj => by omega⟩
theorem LR.sv {H : Nat} {w : World} {v : Value} {n : Nat} {x : S31} (h : LR H w v n n x) : SV H w v n x := by
  rcases h with h | ⟨g, cap, h1, h2, h3, h4, h5⟩
  · exact .inl h
  · exact .inr ⟨g, cap, h1, h2, h4, h5⟩
theorem LR.xs {H : Nat} {w w' : World} {v : Value} {n j : Nat} {x : S31} (h : LR H w v n j x) (k : Xs H x w w') : LR H w' v n j x := by
  rcases h with h | ⟨g, cap, h1, h2, h3, h4, h5⟩
  · exact .inl h
  · exact .inr ⟨g, cap, h1, h2, h3, h4, h5.xs h2 k⟩
theorem LX.set3 {H : Nat} {w : World} {g cap j : Nat} {x : S31} (h : LX w g cap j x) (hg : H ≤ g) (hj : j < cap) :
    LX (((w.setCell ⟨g, j * 3, none⟩ (.int .i64 x.f0)).setCell ⟨g, j * 3 + 1, none⟩ (.int .i64 x.f1)).setCell ⟨g, j * 3 + 2, none⟩ (.string x.f2)) g cap (j + 1) x ∧
    Xs H x w (((w.setCell ⟨g, j * 3, none⟩ (.int .i64 x.f0)).setCell ⟨g, j * 3 + 1, none⟩ (.int .i64 x.f1)).setCell ⟨g, j * 3 + 2, none⟩ (.string x.f2)) := by
  obtain ⟨cur, h1, h2, h3, h4⟩ := h
  have e0 : (Value.int .i64 x.f0) = xc x (j * 3) := (xc_per x j 0).symm
  have e1 : (Value.int .i64 x.f1) = xc x (j * 3 + 1) := (xc_per x j 1).symm
  have e2 : (Value.string x.f2) = xc x (j * 3 + 2) := (xc_per x j 2).symm
  rw [e0, e1, e2]
  have b1 := blk_put h1 (j * 3) (xc x (j * 3)) rfl
  have b2 := blk_put b1 (j * 3 + 1) (xc x (j * 3 + 1)) rfl
  have b3 := blk_put b2 (j * 3 + 2) (xc x (j * 3 + 2)) rfl
  refine ⟨⟨_, b3, by simp [h2], hj, fun i hi => ?_⟩, (Xs.set hg h1 (by omega)).trans ((Xs.set hg b1 (by simp; omega)).trans (Xs.set hg b2 (by simp; omega)))⟩
  simp only [Array.getElem?_setIfInBounds, Array.size_setIfInBounds]
  by_cases c2 : j * 3 + 2 = i
  · subst c2; rw [if_pos rfl, if_pos (by omega)]
  · rw [if_neg c2]
    by_cases c1 : j * 3 + 1 = i
    · subst c1; rw [if_pos rfl, if_pos (by omega)]
    · rw [if_neg c1]
      by_cases c0 : j * 3 = i
      · subst c0; rw [if_pos rfl, if_pos (by omega)]
      · rw [if_neg c0]; exact h4 i (by omega)
theorem LX.free {w : World} {g cap n j : Nat} {x : S31} (h : LX w g cap n x) (hj : j < cap) : (∃ u, w.cell? ⟨g, j * 3, none⟩ = some u) ∧ (∃ u, w.cell? ⟨g, j * 3 + 1, none⟩ = some u) ∧ (∃ u, w.cell? ⟨g, j * 3 + 2, none⟩ = some u) ∧ ∀ i, w.frozen? ⟨g, i, none⟩ = false := by
  obtain ⟨cur, h1, h2, _⟩ := h
  have e : ∀ i, i < cur.size → ∃ u, w.cell? ⟨g, i, none⟩ = some u := fun i hi => ⟨_, (blk_cell h1 i).trans (Array.getElem?_eq_getElem hi)⟩
  exact ⟨e _ (by omega), e _ (by omega), e _ (by omega), fun i => blk_frozen h1 i⟩
theorem wp_append_of {P : Program} {w w' : World} {v u v' : Value} {o : Oper} {a : Act} {K : Act → World → Prop} {Q : Exit → Act → World → Prop} {t : TypeId} (s y : Operand) (ho : o.op = .call { callee := .builtin .append, args := #[s, y], argTypes := #[t, t] }) (hs : a.eval s = v) (hy : a.eval y = u)
    (hr : (Builtin.append_ #[t, t] o.type #[v, u]).run P w = .ok v' w') (h : K (a.put o.dst v') w') : Oper.wp P o a w K Q := by
  unfold Oper.wp execOp
  simp only [ho, resolve, invoke, builtin, Sem.run_bind, Sem.run_pure, Result.andThen_ok, List.map_toArray, List.map_cons, List.map_nil, hs, hy, hr]
  exact h
section
variable {H : Nat} {x : S31} {w : World} {n m c : Nat} {v : Value} {A : Addr} {ops : Array Oper} {rest : List Oper} {o : Oper} {a : Act} {K : Act → World → Prop} {Q : Exit → Act → World → Prop}
theorem wp_app_x (s y : Operand) (ho : o.op = .call { callee := .builtin .append, args := #[s, y], argTypes := #[25, 25] }) (hs : a.eval s = v) (hy : a.eval y = .slice (some A) m c) (hH : H ≤ w.heap.size) (hv : SV H w v n x) (hm : 0 < m) (hc : ∀ j, j < m * 3 → w.cell? (A.add j) = some (xc x j)) (hb : (n + m) * 32 ≤ 140737488355328)
    (h : ∀ v' w', SV H w' v' (n + m) x → Xs H x w w' → K (a.put o.dst v') w') : Oper.wp Tryd.prog o a w K Q := by
  obtain ⟨v', w', hr, h2, h3⟩ := app_x hH hv hm hc hb o.type
  exact wp_append_of s y ho hs hy hr (h v' w' h2 h3)
theorem wpl_app_x (hgd : o.guard = none) (s y : Operand) (ho : o.op = .call { callee := .builtin .append, args := #[s, y], argTypes := #[25, 25] }) (hs : a.eval s = v) (hy : a.eval y = .slice (some A) m c) (hH : H ≤ w.heap.size) (hv : SV H w v n x) (hm : 0 < m) (hc : ∀ j, j < m * 3 → w.cell? (A.add j) = some (xc x j)) (hb : (n + m) * 32 ≤ 140737488355328)
    (h : ∀ v' w', SV H w' v' (n + m) x → Xs H x w w' → wpList Tryd.prog ops Q rest (a.put o.dst v') w') : wpList Tryd.prog ops Q (o :: rest) a w :=
  wpList_plain hgd fun _ hK => wp_app_x s y ho hs hy hH hv hm hc hb fun v' w' h1 h2 => hK _ _ (h v' w' h1 h2)
end
theorem SV.news {H n c : Nat} {w : World} {x : S31} {A : Option Addr} (h : SV H w (.slice A n c) n x) (hn : 0 < n) : ∃ ad, A = some ad ∧ ∀ j, j < n * 3 → w.cell? (ad.add j) = some (xc x j) := by
  rcases h with ⟨_, h⟩ | ⟨g, cap, h, _, _, hl⟩
  · omega
  · injection h with hA
    exact ⟨_, hA, fun j hj => by rw [Addr.add_lit, Nat.zero_add]; exact hl.cell j hj⟩
theorem one_news {w : World} {g : Nat} {x : S31} (h : LX w g 1 1 x) : ∀ j, j < 1 * 3 → w.cell? ((⟨g, 0, none⟩ : Addr).add j) = some (xc x j) := fun j hj => by
  rw [Addr.add_lit, Nat.zero_add]; exact h.cell j hj
theorem LX.new (w : World) (x : S31) : LX (w.alloc (.cells #[.int .i64 x.f0, .int .i64 x.f1, .string x.f2] 31)) w.heap.size 1 1 x :=
  ⟨_, blk_new w _, rfl, Nat.le_refl 1, fun j hj => by rcases (show j = 0 ∨ j = 1 ∨ j = 2 by omega) with rfl | rfl | rfl <;> rfl⟩
theorem Xs.alloc {H : Nat} {x : S31} {w : World} (o : Obj) (hH : H ≤ w.heap.size) : Xs H x w (w.alloc o) := Xs.below (below_alloc (Below.refl _ _) o) hH
section
variable {H : Nat} {x : S31} {w : World} {n m c : Nat} {v : Value} {A : Addr} {ops : Array Oper} {o : Oper} {a : Act} {K : Act → World → Prop} {Q : Exit → Act → World → Prop} {E : Prop}
theorem step_app_x (hgd : o.guard = none) (s y : Operand) (ho : o.op = .call { callee := .builtin .append, args := #[s, y], argTypes := #[25, 25] }) (hs : a.eval s = v) (hy : a.eval y = .slice (some A) m c) (hH : H ≤ w.heap.size) (hv : SV H w v n x) (hm : 0 < m) (hc : ∀ j, j < m * 3 → w.cell? (A.add j) = some (xc x j)) (hb : (n + m) * 32 ≤ 140737488355328)
    (h : ∀ v' w', SV H w' v' (n + m) x → Xs H x w w' → K (a.put o.dst v') w') : if Region.wanted o (yielded ops a.tmps) = true then Oper.wp Tryd.prog o a w K Q else E := by
  have hw : Region.wanted o (yielded ops a.tmps) = true := by simp [Region.wanted, hgd]
  rw [if_pos hw]
  exact wp_app_x s y ho hs hy hH hv hm hc hb h
end
theorem LX.new2 (w : World) (x : S31) : LX (w.alloc (.cells #[.int .i64 x.f0, .int .i64 x.f1, .string x.f2, .int .i64 x.f0, .int .i64 x.f1, .string x.f2] 31)) w.heap.size 2 2 x :=
  ⟨_, blk_new w _, rfl, Nat.le_refl 2, fun j hj => by rcases (show j = 0 ∨ j = 1 ∨ j = 2 ∨ j = 3 ∨ j = 4 ∨ j = 5 by omega) with rfl | rfl | rfl | rfl | rfl | rfl <;> rfl⟩
theorem LX.new3 (w : World) (x : S31) : LX (w.alloc (.cells #[.int .i64 x.f0, .int .i64 x.f1, .string x.f2, .int .i64 x.f0, .int .i64 x.f1, .string x.f2, .int .i64 x.f0, .int .i64 x.f1, .string x.f2] 31)) w.heap.size 3 3 x :=
  ⟨_, blk_new w _, rfl, Nat.le_refl 3, fun j hj => by rcases (show j = 0 ∨ j = 1 ∨ j = 2 ∨ j = 3 ∨ j = 4 ∨ j = 5 ∨ j = 6 ∨ j = 7 ∨ j = 8 by omega) with rfl | rfl | rfl | rfl | rfl | rfl | rfl | rfl | rfl <;> rfl⟩
theorem lx_news {w : World} {g k : Nat} {x : S31} (h : LX w g k k x) : ∀ j, j < k * 3 → w.cell? ((⟨g, 0, none⟩ : Addr).add j) = some (xc x j) := fun j hj => by
  rw [Addr.add_lit, Nat.zero_add]; exact h.cell j hj
theorem SV.grown {H n : Nat} {w w' : World} {v : Value} {x : S31} {row : Option Nat} (h : SV H w v n x) (hg : w.grownBy w' row) (hne : ∀ g cur, w.heap[g]? = some (.cells cur 31 (0, 0)) → some g ≠ row) : SV H w' v n x := by
  rcases h with h | ⟨g, cap, h1, h2, h3, cur, h4, h5⟩
  · exact .inl h
  · exact .inr ⟨g, cap, h1, h2, h3, cur, (hg.block g (blk_lt h4) (hne g cur h4)).trans h4, h5⟩
theorem info25 : (Tryd.prog.info? 25).map (fun i => (i.zero, i.size, i.bytes)) = some (some (.slice none 0 0), 1, 24) := by kernel_rfl
theorem own_row25 {w : World} {B n g : Nat} {A : Option Addr} {c : Nat} {xs : List Value} {cur : Array Value} (h : w.ownsRow B 25 1 (.slice A n c) n xs) (hg : w.heap[g]? = some (.cells cur 31 (0, 0))) : some g ≠ (Value.slice A n c).ownBlock := by
  intro e
  rcases h.2 with ⟨h, _⟩ | ⟨g2, cap, cur2, h, _, h2, _⟩
  · injection h with hA; subst hA; cases e
  · injection h with hA; subst hA
    have : g = g2 := Option.some.inj e
    subst this
    rw [h2] at hg
    injection hg with hg
    injection hg with _ hg _
    exact absurd hg (by decide)
theorem LX.grown {g cap n : Nat} {w w' : World} {x : S31} {row : Option Nat} (h : LX w g cap n x) (hg : w.grownBy w' row) (hne : ∀ g cur, w.heap[g]? = some (.cells cur 31 (0, 0)) → some g ≠ row) : LX w' g cap n x := by
  obtain ⟨cur, h4, h5⟩ := h
  exact ⟨cur, (hg.block g (blk_lt h4) (hne g cur h4)).trans h4, h5⟩
end Go.Proofs.YtbpiahpkbapijaaDoor.A
end
section
namespace Go.Proofs.YtbpiahpkbapijaaDoor.A
open Go.RowKit Go.Proofs.YtbpiahpkbapijaaDoorW.PrintWords Go.Proofs.YtbpiahpkbapijaaDoorW.PrintLast Go.Proofs.YtbpiahpkbapijaaDoorW.PrintMore
set_option linter.unusedVariables false
set_option linter.unusedSimpArgs false
def Tt {α : Type} (g : Nat → Option α) (P : α → Prop) : Prop := ∃ r, Ev g r ∧ P r
theorem Tt.bind {α β : Type} {g : Nat → Option α} {f : Nat → α → Option β} {P : α → Prop} {Q : β → Prop} (h : Tt g P) (k : ∀ a, P a → Tt (fun n => f n a) Q) : Tt (fun n => (g n).bind (f n)) Q := by
  obtain ⟨a, ha, hp⟩ := h
  obtain ⟨r, hr, hq⟩ := k a hp
  exact ⟨r, Ev.bind ha hr, hq⟩
theorem Tt.some_ {α : Type} {P : α → Prop} {r : α} (h : P r) : Tt (fun _ => some r) P := ⟨r, ⟨0, fun _ _ => rfl⟩, h⟩
theorem Tt.step {α : Type} {f g : Nat → Option α} {P : α → Prop} (h : ∀ k, f (k + 1) = g k) (hg : Tt g P) : Tt f P := let ⟨r, hr, hp⟩ := hg; ⟨r, Ev.step h hr, hp⟩
theorem Tt.congr {α : Type} {f g : Nat → Option α} {P : α → Prop} (h : ∀ k, f k = g k) (hg : Tt g P) : Tt f P := let ⟨r, hr, hp⟩ := hg; ⟨r, Ev.congr h hr, hp⟩
theorem Tt.mono {α : Type} {f : Nat → Option α} {P Q : α → Prop} (h : Tt f P) (k : ∀ a, P a → Q a) : Tt f Q := let ⟨r, hr, hp⟩ := h; ⟨r, hr, k r hp⟩
theorem Tt.ite {α : Type} {c : Prop} [Decidable c] {f g : Nat → Option α} {P : α → Prop} (h1 : c → Tt f P) (h2 : ¬ c → Tt g P) : Tt (fun k => if c then f k else g k) P := by
  by_cases h : c
  · exact Tt.congr (fun k => if_pos h) (h1 h)
  · exact Tt.congr (fun k => if_neg h) (h2 h)
theorem Tt.of {α : Type} {g : Nat → Option α} {P : α → Prop} (hg : ∀ k, LeO (g k) (g (k + 1))) {k : Nat} {r : α} (h : g k = some r) (hp : P r) : Tt g P := ⟨r, Ev.of hg h, hp⟩
theorem b_all {P : Int → Prop} (h : ∀ n : Fin 256, P (n.val : Int)) {c : Int} (h0 : 0 ≤ c) (h1 : c ≤ 255) : P c := by
  have := h ⟨c.toNat, by omega⟩
  rwa [show ((c.toNat : Nat) : Int) = c by omega] at this
set_option maxRecDepth 100000 in
theorem cls_any : ∀ n : Fin 256, (scan_class.f 6 (n.val : Int)).any (fun v => decide (0 ≤ v ∧ v < 7)) = true := by decide +kernel
set_option maxRecDepth 100000 in
theorem val_any : ∀ n : Fin 256, (scan_value.f 4 (n.val : Int)).any (fun v => decide (0 ≤ v ∧ v ≤ 99)) = true := by decide +kernel
theorem any_some {α : Type} {o : Option α} {p : α → Bool} (h : o.any p = true) : ∃ v, o = some v ∧ p v = true := by
  cases o with
  | none => cases h
  | some v => exact ⟨v, rfl, h⟩
theorem Tt_class (s : ByteArray) (i : Int) : Tt (fun k => scan_class.f k (bt s i)) (fun v => 0 ≤ v ∧ v < 7) := by
  obtain ⟨v, hv, hp⟩ := any_some (b_all (P := fun c => (scan_class.f 6 c).any (fun v => decide (0 ≤ v ∧ v < 7)) = true) cls_any (bt_range s i).1 (bt_range s i).2)
  exact Tt.of (scan_class.mono _) hv (of_decide_eq_true hp)
theorem Tt_value (s : ByteArray) (i : Int) : Tt (fun k => scan_value.f k (bt s i)) (fun v => 0 ≤ v ∧ v ≤ 99) := by
  obtain ⟨v, hv, hp⟩ := any_some (b_all (P := fun c => (scan_value.f 4 c).any (fun v => decide (0 ≤ v ∧ v ≤ 99)) = true) val_any (bt_range s i).1 (bt_range s i).2)
  exact Tt.of (scan_value.mono _) hv (of_decide_eq_true hp)
theorem Tt_worthL (x4 : Int) (h4 : 8 ≤ x4) (x5 : ByteArray) (hs : x5.size ≤ 140737488355328) (d : Nat) : ∀ (x6 i : Int), 0 ≤ i → (x5.size : Int) - i = d → Tt (fun k => scan_worth.l0 k x4 x5 x6 (x5.size : Int) i) (fun _ => True) := by
  induction d with
  | zero =>
    intro x6 i h0 hd
    refine Tt.step (fun k => rfl) ?_
    exact Tt.ite (fun h => absurd h (by omega)) (fun _ => Tt.some_ trivial)
  | succ d ih =>
    intro x6 i h0 hd
    refine Tt.step (fun k => rfl) ?_
    refine Tt.ite (fun _ => Tt.ite (fun _ => Tt.ite (fun _ => ?_) (fun h => absurd (show i < (x5.size : Int) by omega) h)) (fun h => absurd h0 h)) (fun h => absurd (show i < (x5.size : Int) by omega) h)
    refine Tt.bind (Tt_value x5 i) (fun t ht => ?_)
    refine Tt.ite (fun _ => Tt.some_ trivial) (fun _ => Tt.ite (fun h => absurd h (by omega)) (fun _ => Tt.ite (fun _ => Tt.some_ trivial) (fun _ => ?_)))
    rw [w64_in (i + 1) (by omega)]
    exact ih _ (i + 1) (by omega) (by omega)
theorem Tt_worth1 (x4 : Int) (h4 : 8 ≤ x4) (x5 : ByteArray) (hs : x5.size ≤ 140737488355328) : Tt (fun k => scan_worth.j1 k x4 x5) (fun _ => True) :=
  Tt.step (fun k => rfl) (Tt_worthL x4 h4 x5 hs x5.size 0 0 (by omega) (by omega))
theorem ext_size (s : ByteArray) (a b : Nat) : (s.extract a b).size ≤ s.size := by rw [ByteArray.size_extract]; omega
theorem Tt_worth0 (s : ByteArray) (hs : s.size ≤ 140737488355328) (b : Bool) (hb : b = true → 2 ≤ (s.size : Int)) : Tt (fun k => scan_worth.j0 k s 10 s b) (fun _ => True) := by
  refine Tt.step (fun k => rfl) ?_
  refine Tt.ite (fun h => Tt.ite (fun _ => Tt_worth1 16 (by decide) _ (Nat.le_trans (ext_size _ _ _) hs)) (fun h2 => absurd (hb h) h2)) (fun _ => Tt.ite (fun h1 => Tt.ite (fun _ => Tt.ite (fun _ => Tt.ite (fun _ => Tt_worth1 8 (by decide) _ (Nat.le_trans (ext_size _ _ _) hs)) (fun h => absurd (show 1 ≤ (s.size : Int) by omega) h)) (fun _ => Tt_worth1 10 (by decide) s hs)) (fun h => absurd (show 0 < (s.size : Int) by omega) h)) (fun _ => Tt_worth1 10 (by decide) s hs))
theorem Tt_worth (s : ByteArray) (hs : s.size ≤ 140737488355328) : Tt (fun k => scan_worth.f k s) (fun _ => True) := by
  unfold scan_worth.f
  refine Tt.ite (fun h1 => Tt.ite (fun _ => Tt.ite (fun _ => Tt.ite (fun _ => Tt.ite (fun _ => Tt_worth0 s hs _ (fun _ => by omega)) (fun _ => Tt_worth0 s hs _ (fun _ => by omega))) (fun h => absurd (show 1 < (s.size : Int) by omega) h)) (fun _ => Tt_worth0 s hs _ (fun h => by cases h))) (fun h => absurd (show 0 < (s.size : Int) by omega) h)) (fun _ => Tt_worth0 s hs _ (fun h => by cases h))
theorem Tt_row (s : ByteArray) (hs : s.size ≤ 140737488355328) (d : Nat) : ∀ i : Int, 0 ≤ i → i ≤ s.size → (s.size : Int) - i = d → Tt (fun k => scan_row.l0 k s i) (fun r => i ≤ r ∧ r ≤ s.size) := by
  induction d with
  | zero =>
    intro i h0 h1 hd
    refine Tt.step (fun k => rfl) ?_
    exact Tt.ite (fun h => absurd h (by omega)) (fun _ => Tt.some_ ⟨by omega, h1⟩)
  | succ d ih =>
    intro i h0 h1 hd
    refine Tt.step (fun k => rfl) ?_
    refine Tt.ite (fun _ => Tt.ite (fun _ => ?_) (fun h => absurd h0 h)) (fun h => absurd (show i < (s.size : Int) by omega) h)
    refine Tt.bind (Tt_class s i) (fun t ht => ?_)
    have hr := (ih (i + 1) (by omega) (by omega) (by omega)).mono (Q := fun r => i ≤ r ∧ r ≤ s.size) (fun a h => ⟨by omega, h.2⟩)
    rw [w64_in (i + 1) (by omega)]
    exact Tt.ite (fun _ => hr) (fun _ => Tt.ite (fun _ => hr) (fun _ => Tt.some_ ⟨by omega, by omega⟩))
theorem Tt_escapeL (s : ByteArray) (hs : s.size ≤ 140737488355328) (x6 x8 x10 : Int) (h10 : 0 ≤ x10) (d : Nat) : ∀ (x7 x9 : Int), 0 ≤ x7 → x7 ≤ s.size → (s.size : Int) - x7 = d → Tt (fun k => scan_escape.l0 k s x6 x7 x8 x9 x10) (fun r => 0 ≤ r.2 ∧ r.2 ≤ s.size) := by
  have fin : ∀ (x7 x9 : Int), 0 ≤ x7 → x7 ≤ s.size → Tt (fun _ => if x7 = x10 then some ((0, 0) : Int × Int) else (if x9 > 255 then some (0, 0) else some (x9 % 256, x7))) (fun r => 0 ≤ r.2 ∧ r.2 ≤ s.size) := fun x7 x9 h0 h1 =>
    Tt.ite (fun _ => Tt.some_ ⟨by decide, by show (0 : Int) ≤ _; omega⟩) (fun _ => Tt.ite (fun _ => Tt.some_ ⟨by decide, by show (0 : Int) ≤ _; omega⟩) (fun _ => Tt.some_ ⟨h0, h1⟩))
  induction d with
  | zero =>
    intro x7 x9 h0 h1 hd
    refine Tt.step (fun k => rfl) ?_
    exact Tt.ite (fun h => absurd h (by omega)) (fun _ => fin x7 x9 h0 h1)
  | succ d ih =>
    intro x7 x9 h0 h1 hd
    refine Tt.step (fun k => rfl) ?_
    refine Tt.ite (fun _ => Tt.ite (fun _ => Tt.ite (fun _ => ?_) (fun h => absurd h0 h)) (fun _ => fin x7 x9 h0 h1)) (fun _ => fin x7 x9 h0 h1)
    refine Tt.bind (Tt_value s x7) (fun t _ => Tt.ite (fun _ => Tt.bind (Tt_value s x7) (fun u _ => ?_)) (fun _ => fin x7 x9 h0 h1))
    rw [w64_in (x7 + 1) (by omega)]
    exact ih (x7 + 1) _ (by omega) (by omega) (by omega)
set_option maxRecDepth 100000 in
theorem simple_any : ∀ n : Fin 256, (scan_simple.f (n.val : Int)).any (fun _ => true) = true := by decide +kernel
theorem toList_nil (s : ByteArray) : (s.toList = ([] : List UInt8)) ↔ s.size = 0 := by
  rw [ByteArray.toList_eq]
  constructor
  · intro h
    have := congrArg List.length h
    rw [Array.length_toList] at this
    exact this
  · intro h
    apply List.eq_nil_of_length_eq_zero
    rw [Array.length_toList]
    exact h
theorem toList_ne {s : ByteArray} (h : ¬ s.toList = ([] : List UInt8)) : 0 < s.size := Nat.pos_of_ne_zero (fun e => h ((toList_nil s).2 e))
theorem Tt_escape (s : ByteArray) (hs : s.size ≤ 140737488355328) : Tt (fun k => scan_escape.f k s) (fun r => 0 ≤ r.2 ∧ r.2 ≤ s.size) := by
  unfold scan_escape.f
  refine Tt.ite (fun _ => Tt.some_ ⟨by decide, by show (0 : Int) ≤ _; omega⟩) (fun hne => ?_)
  have h0 := toList_ne hne
  refine Tt.ite (fun _ => ?_) (fun h => absurd (show 0 < (s.size : Int) by omega) h)
  obtain ⟨v, hv, _⟩ := any_some (b_all (P := fun c => (scan_simple.f c).any (fun _ => true) = true) simple_any (bt_range s 0).1 (bt_range s 0).2)
  refine Tt.bind (g := fun _ => scan_simple.f (bt s 0)) (P := fun _ => True) ⟨v, ⟨0, fun _ _ => hv⟩, trivial⟩ (fun a _ => Tt.ite (fun _ => Tt.some_ ⟨by show (0 : Int) ≤ 1; decide, by show (1 : Int) ≤ _; omega⟩) (fun _ => ?_))
  have j0 : ∀ b : Bool, Tt (fun k => scan_escape.j0 k s 8 0 3 b) (fun r => 0 ≤ r.2 ∧ r.2 ≤ s.size) := fun b => by
    refine Tt.step (fun k => rfl) ?_
    refine Tt.ite (fun _ => Tt.step (fun k => rfl) ?_) (fun _ => Tt.step (fun k => rfl) ?_)
    · exact Tt_escapeL s hs 16 2 1 (by decide) (s.size - 1) 1 0 (by decide) (by omega) (by omega)
    · exact Tt_escapeL s hs 8 3 0 (by decide) s.size 0 0 (by decide) (by omega) (by omega)
  exact Tt.ite (fun _ => j0 _) (fun _ => j0 _)
theorem Tt_unqL (s : ByteArray) (hs : s.size ≤ 1099511627776) : ∀ (N : Nat) (l : List Int) (x6 : Int), 1 ≤ x6 → x6 ≤ s.size → (s.size : Int) - x6 = N → (l.length : Int) ≤ x6 → Tt (fun k => scan_unquoted.l0 k s l x6) (fun r => r.2.2 = true → 1 ≤ r.2.1 ∧ r.2.1 ≤ s.size) := by
  intro N
  induction N using Nat.strongRecOn with
  | ind N ih =>
    intro l x6 h1 h2 hN hl
    refine Tt.step (fun k => rfl) ?_
    refine Tt.ite (fun hlt => Tt.ite (fun _ => Tt.ite (fun _ => ?_) (fun h => absurd (show 0 < (s.size : Int) by omega) h)) (fun h => absurd (show 0 ≤ x6 by omega) h)) (fun _ => Tt.some_ (fun h => by cases h))
    have J : ∀ b : Bool, Tt (fun k => scan_unquoted.j2 k s l x6 (bt s x6) (bt s x6) b) (fun r => r.2.2 = true → 1 ≤ r.2.1 ∧ r.2.1 ≤ s.size) := fun b => by
      refine Tt.step (fun k => rfl) ?_
      have hx : (s.extract (x6 + 1).toNat s.size).size = s.size - (x6 + 1).toNat := by rw [ByteArray.size_extract]; omega
      refine Tt.ite (fun _ => Tt.some_ (fun h => by cases h)) (fun _ => Tt.ite (fun _ => ?_) (fun _ => Tt.ite (fun _ => ?_) (fun h => absurd (show l.length < 140737488355328 by omega) h)))
      · rw [w64_in (x6 + 1) (by omega)]
        refine Tt.ite (fun _ => Tt.ite (fun _ => ?_) (fun h => absurd (show x6 + 1 ≤ (s.size : Int) by omega) h)) (fun h => absurd (show 0 ≤ x6 + 1 by omega) h)
        refine Tt.bind (Tt_escape _ (by rw [hx]; omega)) (fun r hr => Tt.ite (fun _ => Tt.some_ (fun h => by cases h)) (fun hr0 => Tt.ite (fun _ => ?_) (fun h => absurd (show l.length < 140737488355328 by omega) h)))
        rw [hx] at hr
        rw [w64_in (1 + r.2) (by omega), w64_in (x6 + (1 + r.2)) (by omega)]
        exact ih ((s.size : Int) - (x6 + (1 + r.2))).toNat (by omega) _ _ (by omega) (by omega) (by omega) (by rw [List.length_append, List.length_singleton]; omega)
      · rw [w64_in (x6 + 1) (by omega)]
        exact ih ((s.size : Int) - (x6 + 1)).toNat (by omega) _ _ (by omega) (by omega) (by omega) (by rw [List.length_append, List.length_singleton]; omega)
    refine Tt.ite (fun _ => Tt.some_ (fun _ => ?_)) (fun _ => Tt.ite (fun _ => J _) (fun _ => J _))
    show 1 ≤ wrap64 (x6 + 1) ∧ wrap64 (x6 + 1) ≤ _
    rw [w64_in (x6 + 1) (by omega)]
    omega
theorem Tt_unquoted (s : ByteArray) (hs : s.size ≤ 1099511627776) : Tt (fun k => scan_unquoted.f k s) (fun r => r.2.2 = true → 1 ≤ r.2.1 ∧ r.2.1 ≤ s.size) := by
  have j0 : 0 < s.size → ∀ b : Bool, Tt (fun k => scan_unquoted.j0 k s b) (fun r => r.2.2 = true → 1 ≤ r.2.1 ∧ r.2.1 ≤ s.size) := fun h0 b => by
    refine Tt.step (fun k => rfl) ?_
    exact Tt.ite (fun _ => Tt.some_ (fun h => by cases h)) (fun _ => Tt_unqL s hs (s.size - 1) [] 1 (by decide) (by omega) (by omega) (by show (0 : Int) ≤ 1; decide))
  unfold scan_unquoted.f
  refine Tt.ite (fun h => ?_) (fun hne => ?_)
  · exact Tt.step (g := fun _ => some ((⟨#[]⟩ : ByteArray), (0 : Int), false)) (fun k => rfl) (Tt.some_ (by intro h; cases h))
  · have h0 := toList_ne hne
    refine Tt.ite (fun _ => ?_) (fun h => absurd (show 0 < (s.size : Int) by omega) h)
    exact Tt.bind (Tt_class s 0) (fun t _ => j0 h0 _)
theorem Tt_charL1 (s : ByteArray) (hs : s.size ≤ 1099511627776) (a i : Int) (ha : 0 ≤ a) (hm : 0 ≤ wmore i ∧ wmore i ≤ 3) (hl : a + wmore i < s.size) (d : Nat) : ∀ j : Int, 1 ≤ j → wmore i + 1 - j = d → Tt (fun k => wire_character.l1 k s a i j) (fun r => 0 ≤ r ∧ r ≤ 4 ∧ a + r ≤ s.size) := by
  induction d with
  | zero =>
    intro j h1 hd
    refine Tt.step (fun k => rfl) ?_
    exact Tt.ite (fun h => absurd h (by omega)) (fun _ => Tt.some_ ⟨by omega, by omega, by omega⟩)
  | succ d ih =>
    intro j h1 hd
    refine Tt.step (fun k => rfl) ?_
    refine Tt.ite (fun _ => ?_) (fun h => absurd (show j ≤ wmore i by omega) h)
    rw [w64_in (a + j) (by omega), w64_in (j + 1) (by omega)]
    exact Tt.ite (fun _ => Tt.ite (fun _ => Tt.ite (fun _ => Tt.some_ ⟨by decide, by decide, by show a + 0 ≤ _; omega⟩) (fun _ => Tt.ite (fun _ => Tt.some_ ⟨by decide, by decide, by show a + 0 ≤ _; omega⟩) (fun _ => ih (j + 1) (by omega) (by omega)))) (fun h => absurd (show a + j < (s.size : Int) by omega) h)) (fun h => absurd (show 0 ≤ a + j by omega) h)
theorem wmore_all : ∀ n : Fin 9, 0 ≤ wmore (n.val : Int) ∧ wmore (n.val : Int) ≤ 3 := by decide +kernel
theorem Tt_charL0 (s : ByteArray) (hs : s.size ≤ 1099511627776) (a : Int) (ha : 0 ≤ a) (hl : a < s.size) (d : Nat) : ∀ i : Int, 0 ≤ i → 9 - i = d → Tt (fun k => wire_character.l0 k s a i) (fun r => 0 ≤ r ∧ r ≤ 4 ∧ a + r ≤ s.size) := by
  induction d with
  | zero =>
    intro i h0 hd
    refine Tt.step (fun k => rfl) ?_
    exact Tt.ite (fun h => absurd h (by omega)) (fun _ => Tt.some_ ⟨by decide, by decide, by show a + 0 ≤ _; omega⟩)
  | succ d ih =>
    intro i h0 hd
    have hw : 0 ≤ wmore i ∧ wmore i ≤ 3 := by
      have := wmore_all ⟨i.toNat, by omega⟩
      rwa [show ((i.toNat : Nat) : Int) = i by omega] at this
    refine Tt.step (fun k => rfl) ?_
    refine Tt.ite (fun _ => Tt.ite (fun _ => Tt.ite (fun _ => ?_) (fun h => absurd hl h)) (fun h => absurd ha h)) (fun h => absurd (show i < 9 by omega) h)
    rw [w64_in (i + 1) (by omega), w64_in (a + wmore i) (by omega)]
    have hi := ih (i + 1) (by omega) (by omega)
    exact Tt.ite (fun _ => hi) (fun _ => Tt.ite (fun _ => hi) (fun _ => Tt.ite (fun _ => Tt.some_ ⟨by decide, by decide, by show a + 0 ≤ _; omega⟩) (fun h => Tt_charL1 s hs a i ha hw (by omega) (wmore i).toNat 1 (by decide) (by omega))))
theorem Tt_utf8 (s : ByteArray) (hs : s.size ≤ 1099511627776) : ∀ (N : Nat) (a : Int), 0 ≤ a → a ≤ s.size → (s.size : Int) - a ≤ N → Tt (fun k => wire_Utf8.l0 k s a) (fun r => r = -1 ∨ 0 ≤ r ∧ r ≤ s.size) := by
  intro N
  induction N with
  | zero =>
    intro a h0 h1 hN
    refine Tt.step (fun k => rfl) ?_
    exact Tt.ite (fun h => absurd h (by omega)) (fun _ => Tt.some_ (.inl rfl))
  | succ N ih =>
    intro a h0 h1 hN
    refine Tt.step (fun k => rfl) ?_
    refine Tt.ite (fun hlt => ?_) (fun _ => Tt.some_ (.inl rfl))
    refine Tt.bind (show Tt (fun k => wire_character.f k s a) _ from Tt_charL0 s hs a h0 hlt 9 0 (by decide) (by decide)) (fun t ht => Tt.ite (fun _ => Tt.some_ (.inr ⟨h0, h1⟩)) (fun hn => ?_))
    rw [w64_in (a + t) (by omega)]
    exact ih (a + t) (by omega) (by omega) (by omega)
theorem Ev.uniq {α : Type} {g : Nat → Option α} {a b : α} (h : Ev g a) (k : Ev g b) : a = b := by
  obtain ⟨K, h⟩ := h
  obtain ⟨K', k⟩ := k
  exact Option.some.inj ((h (max K K') (by omega)).symm.trans (k (max K K') (by omega)))
theorem index_up (sub : List UInt8) : ∀ l : List UInt8, Lib.index l sub ≥ 0 → Lib.index l sub + sub.length ≤ l.length
  | [], h => by
    unfold Lib.index at h ⊢
    by_cases c : sub.isEmpty = true
    · rw [if_pos c]; rw [List.isEmpty_iff.mp c]; decide
    · rw [if_neg c] at h; exact absurd h (by decide)
  | b :: l, h => by
    unfold Lib.index at h ⊢
    by_cases c : sub.isPrefixOf (b :: l) = true
    · rw [if_pos c]
      have := (List.isPrefixOf_iff_prefix.mp c).length_le
      omega
    · rw [if_neg c] at h ⊢
      by_cases d : (Lib.index l sub == -1) = true
      · rw [if_pos d] at h; exact absurd h (by decide)
      · rw [if_neg d] at h ⊢
        have hg := Lib.index_ge l sub
        have hne : Lib.index l sub ≠ -1 := fun e => d (by rw [e]; rfl)
        have := index_up sub l (by omega)
        rw [List.length_cons]
        omega
theorem indexByte_up (c : UInt8) : ∀ l : List UInt8, Lib.indexByte l c ≤ l.length
  | [] => by unfold Lib.indexByte; decide
  | b :: l => by
    have := indexByte_up c l
    unfold Lib.indexByte
    rw [List.length_cons]
    split
    · omega
    · split
      · omega
      · omega
theorem indexByte_head (c b : UInt8) (l : List UInt8) (h : b ≠ c) : Lib.indexByte (b :: l) c ≠ 0 := by
  have hg := Lib.indexByte_ge l c
  unfold Lib.indexByte
  rw [if_neg (by simpa using h)]
  split
  · decide
  · rename_i h2
    have : Lib.indexByte l c ≠ -1 := fun e => h2 (by rw [e]; rfl)
    omega
theorem Tt_prefix (t : ByteArray) (x y : UInt8) : ∃ b, strings_HasPrefix.f t ⟨#[x, y]⟩ = some b ∧ (b = true → 2 ≤ t.size) := by
  unfold strings_HasPrefix.f stringslite_HasPrefix.f
  have h2 : ((⟨#[x, y]⟩ : ByteArray).size : Int) = 2 := rfl
  rw [h2]
  by_cases c : (t.size : Int) ≥ 2
  · rw [if_pos c, if_pos (by decide), if_pos c]
    exact ⟨_, rfl, fun _ => by omega⟩
  · rw [if_neg c]
    exact ⟨_, rfl, fun h => by cases h⟩
def Pc (t : ByteArray) (p : Int × Int × Int) : Prop := p.2.2 = 0 → 1 ≤ p.2.1 ∧ p.2.1 ≤ t.size
theorem Tt_row_first (t : ByteArray) (hs : t.size ≤ 1099511627776) (h0 : 0 < t.size) (c : Int) (hc : Ev (fun k => scan_class.f k (bt t 0)) c) (h23 : c = 2 ∨ c = 3) : Tt (fun k => scan_row.f k t) (fun r => 1 ≤ r ∧ r ≤ t.size) := by
  show Tt (fun k => scan_row.l0 k t 0) _
  refine Tt.step (fun k => rfl) ?_
  refine Tt.ite (fun _ => Tt.ite (fun _ => ?_) (fun h => absurd (by decide) h)) (fun h => absurd (show (0 : Int) < (t.size : Int) by omega) h)
  refine Tt.bind (P := (· = c)) ⟨c, hc, rfl⟩ (fun a ha => ?_)
  subst ha
  rw [w64_in (0 + 1) (by decide)]
  have hr := Tt_row t (by omega) (t.size - 1) (0 + 1) (by decide) (by omega) (by omega)
  exact Tt.ite (fun _ => hr) (fun h2 => Tt.ite (fun _ => hr) (fun h3 => absurd h23 (fun h => h.elim h2 h3)))
theorem Tt_comment (t : ByteArray) (hs : t.size ≤ 65536) (h0 : 0 < t.size) (h10 : bt t 0 ≠ 10) : Tt (fun _ => scan_comment.f t) (Pc t) := by
  unfold scan_comment.f
  obtain ⟨b1, e1, g1⟩ := Tt_prefix t 47 47
  obtain ⟨b2, e2, g2⟩ := Tt_prefix t 47 42
  rw [e1, e2]
  refine Tt.bind (g := fun _ => some b1) (P := (· = b1)) (Tt.some_ rfl) (fun a ha => ?_)
  subst ha
  refine Tt.ite (fun _ => ?_) (fun _ => ?_)
  · refine Tt.bind (g := fun _ => strings_IndexByte.f t 10) (P := fun r => r = Lib.indexByte t.data.toList 10) ⟨_, ⟨0, fun _ _ => rfl⟩, rfl⟩ (fun r hr => ?_)
    refine Tt.ite (fun hge => Tt.some_ (fun _ => ?_)) (fun _ => Tt.some_ (fun _ => ⟨by show 1 ≤ (t.size : Int); omega, Int.le_refl _⟩))
    subst hr
    have hup := indexByte_up 10 t.data.toList
    have hlen : t.data.toList.length = t.size := by rw [Array.length_toList]; rfl
    refine ⟨?_, by show Lib.indexByte t.data.toList 10 ≤ (t.size : Int); omega⟩
    have hne : Lib.indexByte t.data.toList 10 ≠ 0 := by
      obtain ⟨b, l, hbl⟩ : ∃ b l, t.data.toList = b :: l := by
        cases hh : t.data.toList with
        | nil => rw [hh] at hlen; exact absurd hlen (by simp; omega)
        | cons b l => exact ⟨b, l, rfl⟩
      rw [hbl]
      refine indexByte_head 10 b l (fun e => h10 ?_)
      unfold bt
      rw [dif_pos (show (0 : Int).toNat < t.size from h0)]
      have : t[(0 : Int).toNat]'h0 = b := by
        have h1 : t.data.toList[0]? = some b := by rw [hbl]; rfl
        rw [Array.getElem?_toList, Array.getElem?_eq_getElem (show 0 < t.data.size from h0)] at h1
        exact Option.some.inj h1
      rw [this, e]
      rfl
    show 1 ≤ Lib.indexByte t.data.toList 10
    omega
  · refine Tt.bind (g := fun _ => some b2) (P := (· = b2)) (Tt.some_ rfl) (fun a ha => ?_)
    subst ha
    refine Tt.ite (fun hb => ?_) (fun _ => Tt.some_ (fun h => absurd h (by decide)))
    have h2 := g2 hb
    refine Tt.ite (fun _ => ?_) (fun h => absurd (show (2 : Int) ≤ (t.size : Int) by omega) h)
    have hx : (t.extract 2 t.size).size = t.size - 2 := by rw [ByteArray.size_extract]; omega
    refine Tt.bind (g := fun _ => strings_Index.f (t.extract 2 t.size) ⟨#[42, 47]⟩) (P := fun r => r = Lib.index (t.extract 2 t.size).data.toList [42, 47]) ⟨_, ⟨0, fun _ _ => by show strings_Index.f _ _ = _; unfold strings_Index.f; rw [if_pos (by rw [hx]; omega)]⟩, rfl⟩ (fun r hr => ?_)
    refine Tt.ite (fun hge => Tt.some_ (fun _ => ?_)) (fun _ => Tt.some_ (fun h => absurd h (by decide)))
    subst hr
    have hup := index_up [42, 47] (t.extract 2 t.size).data.toList hge
    have hlen : (t.extract 2 t.size).data.toList.length = t.size - 2 := by rw [Array.length_toList]; exact hx
    have h22 : ([42, 47] : List UInt8).length = 2 := rfl
    rw [hlen, h22] at hup
    show 1 ≤ wrap64 (_ + 4) ∧ wrap64 (_ + 4) ≤ _
    rw [w64_in _ (by omega)]
    omega
theorem Tt_number (t : ByteArray) (hs : t.size ≤ 65536) (h0 : 0 < t.size) (c : Int) (hc : Ev (fun k => scan_class.f k (bt t 0)) c) (h3 : c = 3) : Tt (fun k => scan_number.f k t) (Pc t) := by
  unfold scan_number.f
  refine Tt.bind (Tt_row_first t (by omega) h0 c hc (Or.inr h3)) (fun r hr => ?_)
  refine Tt.ite (fun _ => Tt.ite (fun _ => ?_) (fun h => absurd hr.2 h)) (fun h => absurd (show 0 ≤ r by omega) h)
  refine Tt.bind (Tt_worth _ (Nat.le_trans (ext_size _ _ _) (by omega))) (fun a _ => Tt.ite (fun _ => Tt.some_ (fun _ => hr)) (fun _ => Tt.some_ (fun h => absurd h (by decide))))
theorem Tt_str (t : ByteArray) (hs : t.size ≤ 65536) : Tt (fun k => scan_str.f k t) (Pc t) := by
  unfold scan_str.f
  exact Tt.bind (Tt_unquoted t (by omega)) (fun r hr => Tt.ite (fun h => Tt.some_ (fun _ => hr h)) (fun _ => Tt.some_ (fun h => absurd h (by decide))))
theorem Tt_disp (t : ByteArray) (hs : t.size ≤ 65536) (h0 : 0 < t.size) (c : Int) (hr : 0 ≤ c ∧ c < 7) (hc : Ev (fun k => scan_class.f k (bt t 0)) c) : Tt (fun k => scan_disp k c t) (Pc t) := by
  have h1 : (1 : Int) ≤ t.size := by omega
  unfold scan_disp
  refine Tt.ite (fun _ => Tt.some_ (fun h => absurd h (by decide))) (fun c0 => Tt.ite (fun _ => Tt.some_ (fun _ => ⟨Int.le_refl 1, h1⟩)) (fun c1 => Tt.ite (fun h2 => ?_) (fun c2 => Tt.ite (fun h3 => Tt_number t hs h0 c hc h3) (fun c3 => Tt.ite (fun _ => Tt_str t hs) (fun c4 => Tt.ite (fun _ => Tt.some_ (fun _ => ⟨Int.le_refl 1, h1⟩)) (fun c5 => Tt.ite (fun h6 => Tt_comment t hs h0 ?_) (fun c6 => absurd hr (by omega))))))))
  · exact Tt.bind (Tt_row_first t (by omega) h0 c hc (Or.inl h2)) (fun r hr => Tt.some_ (fun _ => hr))
  · intro e
    rw [e] at hc
    have h := Ev.uniq hc (Ev.of (scan_class.mono 10) (show scan_class.f 6 10 = some 1 by decide +kernel))
    omega
theorem bt_ext (s : ByteArray) (a : Nat) (h : a < s.size) : bt (s.extract a s.size) 0 = bt s (a : Int) := by
  have hx : (s.extract a s.size).size = s.size - a := by rw [ByteArray.size_extract]; omega
  unfold bt
  rw [dif_pos (show (0 : Int).toNat < (s.extract a s.size).size by rw [hx]; show 0 < _; omega), dif_pos (show (a : Int).toNat < s.size by omega)]
  have e : (a : Int).toNat = a + (0 : Int).toNat := by omega
  simp only [e]
  rw [ByteArray.getElem_extract]
theorem Tt_tokL (s : ByteArray) (hs : s.size ≤ 65536) : ∀ (N : Nat) (l : List S31) (a : Int), 0 ≤ a → a ≤ s.size → (s.size : Int) - a = N → (l.length : Int) ≤ a → l.length ≤ 16383 → Tt (fun k => scan_Tokens.l0 k s l a) (fun r => r.1.length ≤ 16384 ∧ (r.2.2 = 0 → 1 ≤ r.1.length)) := by
  intro N
  induction N using Nat.strongRecOn with
  | ind N ih =>
    intro l a h0 h1 hN hl hl2
    refine Tt.step (fun k => rfl) ?_
    refine Tt.ite (fun _ => Tt.ite (fun _ => Tt.some_ (by show (l ++ [_]).length ≤ 16384 ∧ (_ → 1 ≤ (l ++ [_]).length); rw [List.length_append]; show l.length + 1 ≤ _ ∧ (_ → 1 ≤ l.length + 1); omega)) (fun h => absurd (show l.length < 4398046511104 by omega) h)) (fun hne => ?_)
    refine Tt.ite (fun _ => Tt.ite (fun hlt => ?_) (fun h => absurd (show a < (s.size : Int) by omega) h)) (fun h => absurd h0 h)
    have hcE : Tt (fun k => scan_class.f k (bt s a)) (fun v => (0 ≤ v ∧ v < 7) ∧ Ev (fun k => scan_class.f k (bt s a)) v) := by
      obtain ⟨v, hv, hp⟩ := Tt_class s a
      exact ⟨v, hv, hp, hv⟩
    refine Tt.bind hcE (fun c hc => ?_)
    have hx : (s.extract a.toNat s.size).size = s.size - a.toNat := by rw [ByteArray.size_extract]; omega
    have hb : bt (s.extract a.toNat s.size) 0 = bt s a := by
      rw [bt_ext s a.toNat (by omega), show ((a.toNat : Nat) : Int) = a by omega]
    refine Tt.bind (Tt_disp (s.extract a.toNat s.size) (by rw [hx]; omega) (by rw [hx]; omega) c hc.1 (by rw [hb]; exact hc.2)) (fun p hp => ?_)
    refine Tt.ite (fun _ => Tt.some_ ⟨Nat.zero_le _, fun h => absurd h (by show ¬ (45 : Int) = 0; decide)⟩) (fun hnc => Tt.ite (fun hz => Tt.some_ ⟨Nat.zero_le _, fun h => absurd h hz⟩) (fun hz => ?_))
    obtain ⟨g1, g2⟩ := hp (Decidable.byContradiction hz)
    rw [hx] at g2
    rw [w64_in (a + p.2.1) (by omega)]
    refine Tt.ite (fun _ => ?_) (fun hk0 => Tt.ite (fun _ => Tt.ite (fun _ => Tt.ite (fun _ => ?_) (fun h => absurd (show l.length < 4398046511104 by omega) h)) (fun h => absurd (show a + p.2.1 ≤ (s.size : Int) by omega) h)) (fun h => absurd (show a ≤ a + p.2.1 by omega) h))
    · exact ih ((s.size : Int) - (a + p.2.1)).toNat (by omega) _ _ (by omega) (by omega) (by omega) (by omega) hl2
    · have hlt2 : l.length < 16383 := by
        have hz0 : p.2.2 = 0 := Decidable.byContradiction hz
        have hn : ¬ ((p.1 = 0 ∧ p.2.2 = 0) ∨ p.2.2 = 43) := by omega
        exact Decidable.byContradiction (fun hh => hnc ⟨hn, by omega⟩)
      exact ih ((s.size : Int) - (a + p.2.1)).toNat (by omega) _ _ (by omega) (by omega) (by omega) (by rw [List.length_append, List.length_singleton]; omega) (by rw [List.length_append, List.length_singleton]; omega)
theorem Tt_Tokens (s : ByteArray) : Tt (fun k => scan_Tokens.f k s) (fun r => r.1.length ≤ 16384 ∧ (r.2.2 = 0 → 1 ≤ r.1.length)) := by
  unfold scan_Tokens.f
  refine Tt.ite (fun _ => Tt.some_ ⟨Nat.zero_le _, fun h => absurd h (by decide)⟩) (fun h => ?_)
  refine Tt.bind (show Tt (fun k => wire_Utf8.f k s) _ from Tt_utf8 s (by omega) s.size 0 (by decide) (by omega) (by omega)) (fun t _ => Tt.ite (fun _ => Tt.some_ ⟨Nat.zero_le _, fun h => absurd h (by show ¬ (44 : Int) = 0; decide)⟩) (fun _ => ?_))
  exact Tt_tokL s (by omega) s.size [] 0 (by decide) (by omega) (by omega) (by decide) (by decide)
theorem tokens_total (t : ByteArray) : ∃ k r, scan_Tokens.f k t = some r ∧ r.1.length ≤ 16384 ∧ (r.2.2 = 0 → 1 ≤ r.1.length) := by
  obtain ⟨r, ⟨K, h⟩, hr⟩ := Tt_Tokens t
  exact ⟨K, r, h K (Nat.le_refl _), hr⟩
theorem same_from (l : List S31) (hl : l.length ≤ 16384) (d : Nat) : ∀ i : Int, 0 ≤ i → i ≤ l.length → (l.length : Int) - i = d → Ev (fun k => sigillaw4_SameTokens.l0 k l l i) true := by
  induction d with
  | zero =>
    intro i h0 h1 hd
    refine Ev.step (f := fun _ => some true) (fun k => ?_) (Ev.now _)
    simp only [sigillaw4_SameTokens.l0]
    rw [if_neg (by omega)]
  | succ d ih =>
    intro i h0 h1 hd
    refine Ev.step (f := fun k => sigillaw4_SameTokens.l0 k l l (i + 1)) (fun k => ?_) (ih (i + 1) (by omega) (by omega) (by omega))
    simp only [sigillaw4_SameTokens.l0]
    rw [if_pos (by omega), w64_in (i + 1) (by omega)]
    simp [h0]
    omega
theorem same_total (l : List S31) (hl : l.length ≤ 16384) : ∃ k, sigillaw4_SameTokens.f k l l = some true := by
  obtain ⟨K, h⟩ := same_from l hl l.length 0 (by omega) (by omega) (by omega)
  refine ⟨K, ?_⟩
  unfold sigillaw4_SameTokens.f
  rw [if_pos rfl]
  exact h K (Nat.le_refl _)
set_option maxRecDepth 100000 in
theorem head_ok : sigillaw4_head.f 30 = some true := by decide +kernel
end Go.Proofs.YtbpiahpkbapijaaDoor.A
end
section
namespace Go.Proofs.YtbpiahpkbapijaaDoor.A
open Go.RowKit Go.Proofs.YtbpiahpkbapijaaDoorW.PrintWords Go.Proofs.YtbpiahpkbapijaaDoorW.PrintLast Go.Proofs.YtbpiahpkbapijaaDoorW.PrintMore
set_option linter.unusedVariables false
set_option linter.unusedSimpArgs false
def RowF (w : World) (g c m : Nat) (f : Nat → S31) : Prop := ∃ cur : Array Value, w.heap[g]? = some (.cells cur 31 (0, 0)) ∧ cur.size = c * 3 ∧ m ≤ c ∧ c ≤ maxLen ∧ ∀ j, j < m * 3 → cur[j]? = some (xc (f (j / 3)) j)
section
variable {w w' : World} {g c m n : Nat} {f f' : Nat → S31} {v : Value}
theorem RowF.move (h : RowF w g c m f) (hb : w'.heap[g]? = w.heap[g]?) : RowF w' g c m f := by
  obtain ⟨cur, h1, h2⟩ := h
  exact ⟨cur, hb.trans h1, h2⟩
theorem RowF.lt (h : RowF w g c m f) : g < w.heap.size := by
  obtain ⟨cur, h1, _⟩ := h
  exact blk_lt h1
theorem RowF.below (h : RowF w g c m f) (hb : Below w.heap.size w w') : RowF w' g c m f := h.move (hb.block g h.lt)
theorem RowF.room {c2 : Nat} (h : RowF w g c m f) (k : RowF w g c2 n f') : c = c2 := by
  obtain ⟨cur, h1, h2, _⟩ := h
  obtain ⟨cur2, k1, k2, _⟩ := k
  rw [h1] at k1
  injection k1 with k1
  injection k1 with k1
  subst k1
  omega
theorem RowF.le (h : RowF w g c m f) (k : n ≤ m) : RowF w g c n f := by
  obtain ⟨cur, h1, h2, h3, h4, h5⟩ := h
  exact ⟨cur, h1, h2, Nat.le_trans k h3, h4, fun j hj => h5 j (by omega)⟩
theorem RowF.congr (h : RowF w g c m f) (k : ∀ j, j < m → f j = f' j) : RowF w g c m f' := by
  obtain ⟨cur, h1, h2, h3, h4, h5⟩ := h
  exact ⟨cur, h1, h2, h3, h4, fun j hj => by rw [← k (j / 3) (by omega)]; exact h5 j hj⟩
theorem RowF.none_ (h : RowF w g c m f) (f' : Nat → S31) : RowF w g c 0 f' := by
  obtain ⟨cur, h1, h2, h3, h4, h5⟩ := h
  exact ⟨cur, h1, h2, Nat.zero_le _, h4, fun j hj => by omega⟩
theorem RowF.cell (h : RowF w g c m f) (j : Nat) (hj : j < m * 3) : w.cell? ⟨g, j, none⟩ = some (xc (f (j / 3)) j) := by
  obtain ⟨cur, h1, _, _, _, h5⟩ := h
  exact (blk_cell h1 j).trans (h5 j hj)
theorem RowF.at_ (h : RowF w g c m f) (j : Nat) (hj : j < m) : w.cell? ⟨g, j * 3, none⟩ = some (.int .i64 (f j).f0) ∧ w.cell? ⟨g, j * 3 + 1, none⟩ = some (.int .i64 (f j).f1) ∧ w.cell? ⟨g, j * 3 + 2, none⟩ = some (.string (f j).f2) := by
  have e : ∀ i, i < 3 → w.cell? ⟨g, j * 3 + i, none⟩ = some (xc (f j) i) := fun i hi => by
    rw [h.cell (j * 3 + i) (by omega), xc_per, show (j * 3 + i) / 3 = j by omega]
  exact ⟨e 0 (by decide), e 1 (by decide), e 2 (by decide)⟩
theorem RowF.free (h : RowF w g c m f) (j : Nat) (hj : j < c) : (∃ u, w.cell? ⟨g, j * 3, none⟩ = some u) ∧ (∃ u, w.cell? ⟨g, j * 3 + 1, none⟩ = some u) ∧ (∃ u, w.cell? ⟨g, j * 3 + 2, none⟩ = some u) ∧ ∀ i, w.frozen? ⟨g, i, none⟩ = false := by
  obtain ⟨cur, h1, h2, _⟩ := h
  have e : ∀ i, i < cur.size → ∃ u, w.cell? ⟨g, i, none⟩ = some u := fun i hi => ⟨_, (blk_cell h1 i).trans (Array.getElem?_eq_getElem hi)⟩
  exact ⟨e _ (by omega), e _ (by omega), e _ (by omega), fun i => blk_frozen h1 i⟩
abbrev setT (w : World) (g j : Nat) (y : S31) : World := ((w.setCell ⟨g, j * 3, none⟩ (.int .i64 y.f0)).setCell ⟨g, j * 3 + 1, none⟩ (.int .i64 y.f1)).setCell ⟨g, j * 3 + 2, none⟩ (.string y.f2)
theorem setT_far {k j : Nat} {y : S31} (h : k ≠ g) : (setT w g j y).heap[k]? = w.heap[k]? :=
  (Below.heap_setCell _ ⟨g, j * 3 + 2, none⟩ _ k h).trans ((Below.heap_setCell _ ⟨g, j * 3 + 1, none⟩ _ k h).trans (Below.heap_setCell _ ⟨g, j * 3, none⟩ _ k h))
theorem setT_size {j : Nat} {y : S31} : (setT w g j y).heap.size = w.heap.size := by simp [setT, World.setCell]
theorem setT_below {B j : Nat} {y : S31} (hg : B ≤ g) : Below B w (setT w g j y) := ⟨rfl, rfl, rfl, Nat.le_of_eq setT_size.symm, fun k hk => setT_far (by omega)⟩
theorem RowF.set_ (h : RowF w g c m f) (hm : m < c) (hy : ∀ j, j < m → f' j = f j) : RowF (setT w g m (f' m)) g c (m + 1) f' := by
  obtain ⟨cur, h1, h2, h3, h4, h5⟩ := h
  have e0 : (Value.int .i64 (f' m).f0) = xc (f' m) (m * 3) := (xc_per (f' m) m 0).symm
  have e1 : (Value.int .i64 (f' m).f1) = xc (f' m) (m * 3 + 1) := (xc_per (f' m) m 1).symm
  have e2 : (Value.string (f' m).f2) = xc (f' m) (m * 3 + 2) := (xc_per (f' m) m 2).symm
  unfold setT
  rw [e0, e1, e2]
  have b1 := blk_put h1 (m * 3) (xc (f' m) (m * 3)) rfl
  have b2 := blk_put b1 (m * 3 + 1) (xc (f' m) (m * 3 + 1)) rfl
  have b3 := blk_put b2 (m * 3 + 2) (xc (f' m) (m * 3 + 2)) rfl
  refine ⟨_, b3, by simp [h2], hm, h4, fun i hi => ?_⟩
  simp only [Array.getElem?_setIfInBounds, Array.size_setIfInBounds]
  by_cases c2 : m * 3 + 2 = i
  · subst c2; rw [if_pos rfl, if_pos (by omega), show (m * 3 + 2) / 3 = m by omega]
  · rw [if_neg c2]
    by_cases c1 : m * 3 + 1 = i
    · subst c1; rw [if_pos rfl, if_pos (by omega), show (m * 3 + 1) / 3 = m by omega]
    · rw [if_neg c1]
      by_cases c0 : m * 3 = i
      · subst c0; rw [if_pos rfl, if_pos (by omega), show m * 3 / 3 = m by omega]
      · rw [if_neg c0, hy (i / 3) (by omega)]; exact h5 i (by omega)
theorem RowF.of_own {B : Nat} {A : Option Addr} {xs : List Value} (h : w.ownsRow B 31 3 (.slice A n c) n xs) (hn : 1 ≤ n) (f : Nat → S31) : ∃ g, A = some ⟨g, 0, none⟩ ∧ B ≤ g ∧ n ≤ c ∧ RowF w g c 0 f := by
  rcases h.2 with ⟨_, h⟩ | ⟨g, cap, cur, h1, h2, h3, h4, h5, h6, _⟩
  · omega
  · injection h1 with hA _ hc
    subst hc
    exact ⟨g, hA, h2, h4, cur, h3, h6, Nat.zero_le _, h5, fun j hj => by omega⟩
def cellsF (f : Nat → S31) (m : Nat) : List Value := (List.range (m * 3)).map fun j => xc (f (j / 3)) j
theorem cellsF_length (f : Nat → S31) (m : Nat) : (cellsF f m).length = m * 3 := by unfold cellsF; rw [List.length_map, List.length_range]
theorem cellsF_get (f : Nat → S31) (m j : Nat) (h : j < m * 3) : (cellsF f m)[j]? = some (xc (f (j / 3)) j) := by
  unfold cellsF
  rw [List.getElem?_map, List.getElem?_range h]
  rfl
theorem cellsF_lt {f : Nat → S31} {m j : Nat} {u : Value} (h : (cellsF f m)[j]? = some u) : j < m * 3 ∧ u = xc (f (j / 3)) j := by
  have h1 := (List.getElem?_eq_some_iff.1 h).1
  rw [cellsF_length] at h1
  rw [cellsF_get f m j h1] at h
  exact ⟨h1, (Option.some.inj h).symm⟩
theorem app_f {A : Addr} {cc : Nat} (h : RowF w g c m f) (hy : ∀ j, j < 3 → w.cell? (A.add j) = some (xc (f m) j)) (hb : (m + 1) * 32 ≤ 140737488355328) (ty : TypeId) :
    ∃ g' c' w', (Builtin.append_ #[25, 25] ty #[.slice (some ⟨g, 0, none⟩) m c, .slice (some A) 1 cc]).run Tryd.prog w = .ok (.slice (some ⟨g', 0, none⟩) (m + 1) c') w' ∧ RowF w' g' c' (m + 1) f ∧ RowF w' g c m f ∧ (g' = g ∨ w.heap.size ≤ g') ∧ w.grownBy w' (some g) := by
  obtain ⟨i0, hi, hzz⟩ := Option.map_eq_some_iff.1 infoTok
  simp only [Prod.mk.injEq] at hzz
  obtain ⟨hz0, hz1, hz2⟩ := hzz
  obtain ⟨cur, hc, hcs, hmc, hcm, hcur⟩ := h
  have hnews : ∀ j u, ([xc (f m) 0, xc (f m) 1, xc (f m) 2] : List Value)[j]? = some u → w.cell? (A.add j) = some u := fun j u hu => by
    have h3 := (List.getElem?_eq_some_iff.1 hu).1
    simp only [List.length_cons, List.length_nil] at h3
    rw [hy j (by omega)]
    rcases (show j = 0 ∨ j = 1 ∨ j = 2 by omega) with rfl | rfl | rfl <;> exact hu
  have h1 : ∀ u ∈ ([xc (f m) 0, xc (f m) 1, xc (f m) 2] : List Value), u.oneCell' = true := fun u hu => by
    simp only [List.mem_cons, List.not_mem_nil, or_false] at hu
    rcases hu with rfl | rfl | rfl <;> exact xc_one _ _
  have hmax : m + 1 ≤ maxLen := by simp only [maxLen]; omega
  have hown : w.ownsRow 0 31 3 (.slice (some ⟨g, 0, none⟩) m c) m (cellsF f m) := by
    refine ⟨cellsF_length f m, .inr ⟨g, c, cur, rfl, Nat.zero_le _, hc, hmc, hcm, hcs, ?_⟩⟩
    apply List.ext_getElem?
    intro j
    rw [List.getElem?_take]
    by_cases a : j < m * 3
    · rw [if_pos a, Array.getElem?_toList, hcur j a, cellsF_get f m j a]
    · rw [if_neg a, List.getElem?_eq_none (by rw [cellsF_length]; omega)]
  have back : ∀ {w' : World} {B g' c' : Nat}, w'.ownsRow B 31 3 (.slice (some ⟨g', 0, none⟩) (m + 1) c') (m + 1) (cellsF f m ++ [xc (f m) 0, xc (f m) 1, xc (f m) 2]) → RowF w' g' c' (m + 1) f := fun h => by
    rcases h.2 with ⟨h, _⟩ | ⟨g2, cap, cur2, e1, _, e3, e4, e5, e6, e7⟩
    · cases h
    · injection e1 with hA _ hcc
      injection hA with hA
      injection hA with hA
      subst hA; subst hcc
      refine ⟨cur2, e3, e6, e4, e5, fun j hj => ?_⟩
      have e8 : (cur2.toList.take ((m + 1) * 3))[j]? = (cellsF f m ++ [xc (f m) 0, xc (f m) 1, xc (f m) 2])[j]? := congrArg (fun l => l[j]?) e7
      rw [List.getElem?_take, if_pos hj, Array.getElem?_toList] at e8
      rw [e8]
      by_cases a : j < m * 3
      · rw [List.getElem?_append_left (by rw [cellsF_length]; exact a), cellsF_get f m j a]
      · rw [List.getElem?_append_right (by rw [cellsF_length]; omega), cellsF_length, show j / 3 = m by omega]
        obtain ⟨t, ht⟩ : ∃ t, j = m * 3 + t := ⟨j - m * 3, by omega⟩
        rw [ht, xc_per, show m * 3 + t - m * 3 = t by omega]
        rcases (show t = 0 ∨ t = 1 ∨ t = 2 by omega) with rfl | rfl | rfl <;> rfl
  by_cases hroom : m + 1 ≤ c
  · obtain ⟨w', hr, ho, hg⟩ := run_append_fits (P := Tryd.prog) w 0 25 ty 31 i0 3 Tryd.underlying25 hi hz1 g m c (cellsF f m) hown A 1 cc [xc (f m) 0, xc (f m) 1, xc (f m) 2] rfl hnews h1 hroom
    exact ⟨g, c, w', hr, back ho, (back ho).le (by omega), .inl rfl, hg⟩
  · obtain ⟨v', w', hr, ho, hg⟩ := run_append_arg_grows (P := Tryd.prog) w 25 ty 31 i0 _ 3 32 Tryd.underlying25 hi hz0 hz1 hz2 rfl (by decide) ⟨g, 0, none⟩ m c (cellsF f m) (cellsF_length f m) (fun j u hu => by
      obtain ⟨h1, rfl⟩ := cellsF_lt hu
      rw [Addr.add_lit, Nat.zero_add]
      exact (blk_cell hc j).trans (hcur j h1)) A 1 cc [xc (f m) 0, xc (f m) 1, xc (f m) 2] rfl hnews (by omega) hmax hb
    have hlt := blk_lt hc
    have hsame := hg.block g hlt (by simp)
    rcases ho.2 with ⟨_, h0⟩ | ⟨g2, cap, cur2, e1, e2, e3, _⟩
    · omega
    · subst e1
      refine ⟨g2, cap, w', hr, back ho, ⟨cur, hsame.trans hc, hcs, hmc, hcm, hcur⟩, .inr e2, ⟨hg.os, hg.tape, hg.output, hg.size, fun k hk _ => hg.block k hk (by simp)⟩⟩
end
section
variable {w w' : World} {g c n B : Nat} {f : Nat → S31} {xs : List S31}
theorem R_rowF {ok : Nat → Prop} {A : Option Addr} (h : Kd.R k31 31 w B ok (.slice A n c) xs) (hn : 1 ≤ n) : ∃ g, A = some ⟨g, 0, none⟩ ∧ B ≤ g ∧ n ≤ c ∧ RowF w g c n (fun j => xs.getD j z31) := by
  obtain ⟨inner, hown⟩ := Kd.R_own h
  obtain ⟨hl, _, hC⟩ := Kd.R_reads' h
  rw [← hl] at hown hC
  rcases hown.2 with ⟨_, h0⟩ | ⟨g, cap, cur, h1, h2, h3, h4, h5, h6, _⟩
  · omega
  · injection h1 with hA _ hc
    subst hc; subst hA
    refine ⟨g, rfl, h2, h4, cur, h3, h6, h4, h5, fun j hj => ?_⟩
    obtain ⟨ad, e, c0, c1, c2⟩ := at_T31 hC ((j / 3 : Nat) : Int) (by omega) (by omega)
    injection e with e
    subst e
    rw [Int.toNat_natCast] at c0 c1 c2
    have hx : rd_T31 xs ((j / 3 : Nat) : Int) = xs.getD (j / 3) z31 := by unfold rd_T31; rw [Int.toNat_natCast]
    rw [hx] at c0 c1 c2
    obtain ⟨t, ht, ht3⟩ : ∃ t, j = j / 3 * 3 + t ∧ t < 3 := ⟨j % 3, by omega, by omega⟩
    obtain ⟨q, hq⟩ : ∃ q, q = j / 3 := ⟨_, rfl⟩
    rw [← hq] at ht c0 c1 c2 ⊢
    rw [ht, xc_per, ← blk_cell h3]
    rw [Addr.add_lit, Nat.zero_add] at c0 c1 c2
    rcases (show t = 0 ∨ t = 1 ∨ t = 2 by omega) with rfl | rfl | rfl
    · exact c0
    · exact c1
    · exact c2
theorem C_rowF (h : RowF w g c n (fun j => xs.getD j z31)) (hl : xs.length = n) : Kd.C k31 w (some ⟨g, 0, none⟩) n xs := by
  obtain ⟨cur, h1, h2, h3, h4, h5⟩ := h
  refine ⟨hl, by simp only [maxLen] at h4; omega, fun _ => ⟨_, rfl, fun j p hp => ⟨_, rfl, k31_mk w p, fun i u hu => ?_⟩⟩⟩
  have hj := (List.getElem?_eq_some_iff.1 hp).1
  have hi := (List.getElem?_eq_some_iff.1 hu).1
  simp only [List.length_cons, List.length_nil] at hi
  show w.cell? ((⟨g, 0, none⟩ : Addr).add (j * 3 + i)) = some u
  have e := h5 (j * 3 + i) (by omega)
  rw [xc_per, show (j * 3 + i) / 3 = j by omega] at e
  rw [Addr.add_lit, Nat.zero_add, blk_cell h1, e]
  have hp2 : xs.getD j z31 = p := by rw [List.getD_eq_getElem?_getD, hp]; rfl
  show some (xc (xs.getD j z31) i) = some u
  rw [hp2]
  rcases (show i = 0 ∨ i = 1 ∨ i = 2 by omega) with rfl | rfl | rfl <;> exact hu
theorem copy_f {A0 : Addr} (h : RowF w g c n f) (hn : 1 ≤ n) (hb : n * 32 ≤ 140737488355328) (ty : TypeId) :
    ∃ g2 c2 w', (Builtin.append_ #[25, 25] ty #[.slice (some A0) 0 0, .slice (some ⟨g, 0, none⟩) n c]).run Tryd.prog w = .ok (.slice (some ⟨g2, 0, none⟩) n c2) w' ∧ w.heap.size ≤ g2 ∧ RowF w' g2 c2 n f ∧ w.grownBy w' none := by
  obtain ⟨i0, hi, hzz⟩ := Option.map_eq_some_iff.1 infoTok
  simp only [Prod.mk.injEq] at hzz
  obtain ⟨hz0, hz1, hz2⟩ := hzz
  obtain ⟨v', w', hr, ho, hg⟩ := run_append_arg_grows (P := Tryd.prog) w 25 ty 31 i0 _ 3 32 Tryd.underlying25 hi hz0 hz1 hz2 rfl (by decide) A0 0 0 [] rfl (fun j u hu => by simp at hu) ⟨g, 0, none⟩ n c (cellsF f n) (cellsF_length f n) (fun j u hu => by
    obtain ⟨h1, rfl⟩ := cellsF_lt hu
    rw [Addr.add_lit, Nat.zero_add]
    exact h.cell j h1) (by omega) (by simp only [maxLen]; omega) (by omega)
  rw [List.nil_append, Nat.zero_add] at ho
  rcases ho.2 with ⟨_, h0⟩ | ⟨g2, cap, cur2, e1, e2, e3, e4, e5, e6, e7⟩
  · omega
  · subst e1
    refine ⟨g2, cap, w', hr, e2, ⟨cur2, e3, e6, e4, e5, fun j hj => ?_⟩, hg⟩
    have e8 : (cur2.toList.take (n * 3))[j]? = (cellsF f n)[j]? := congrArg (fun l => l[j]?) e7
    rw [List.getElem?_take, if_pos hj, Array.getElem?_toList, cellsF_get f n j hj] at e8
    exact e8
theorem app_24 {A : Option Addr} {cc : Nat} {vs : List Value} {b : Nat} {y : Value} (h : w.ownsRow B 25 1 (.slice A n cc) n vs) (hy : w.cell? ⟨b, 0, none⟩ = some y) (hy1 : y.oneCell' = true) (hB : B ≤ w.heap.size) (hb : (n + 1) * 24 ≤ 140737488355328) (ty : TypeId) :
    ∃ A' c' w', (Builtin.append_ #[24, 24] ty #[.slice A n cc, .slice (some ⟨b, 0, none⟩) 1 1]).run Tryd.prog w = .ok (.slice A' (n + 1) c') w' ∧ w'.ownsRow B 25 1 (.slice A' (n + 1) c') (n + 1) (vs ++ [y]) ∧ w.grownBy w' (Value.slice A n cc).ownBlock ∧ ((Value.slice A' (n + 1) c').ownBlock = (Value.slice A n cc).ownBlock ∨ (Value.slice A' (n + 1) c').ownBlock = some w.heap.size) := by
  obtain ⟨i0, hi, hzz⟩ := Option.map_eq_some_iff.1 info25
  simp only [Prod.mk.injEq] at hzz
  obtain ⟨hz0, hz1, hz2⟩ := hzz
  obtain ⟨v', w', hr, ho, hg, _, hat⟩ := run_append_own_at (P := Tryd.prog) w B 24 ty 25 i0 _ 1 24 Tryd.underlying24 hi hz0 hz1 hz2 rfl (by decide) (.slice A n cc) n vs h ⟨b, 0, none⟩ 1 1 [y] rfl (fun j u hu => by
    have := (List.getElem?_eq_some_iff.1 hu).1
    simp only [List.length_cons, List.length_nil] at this
    obtain rfl : j = 0 := by omega
    rw [Addr.add_lit, Nat.zero_add]
    exact hy.trans hu) (fun u hu => by simp only [List.mem_singleton] at hu; rw [hu]; exact hy1) (by simp only [maxLen]; omega) hb hB
  obtain ⟨A', c', rfl⟩ := own_slice ho
  exact ⟨A', c', w', hr, ho, hg, hat⟩
theorem RowF.grown24 {A : Option Addr} {cc m : Nat} {vs : List Value} (h : RowF w g c m f) (ho : w.ownsRow B 25 1 (.slice A n cc) n vs) (hg : w.grownBy w' (Value.slice A n cc).ownBlock) : RowF w' g c m f := by
  obtain ⟨cur, h1, h2⟩ := h
  exact ⟨cur, (hg.block g (blk_lt h1) (own_row25 ho h1)).trans h1, h2⟩
end
theorem wpl_append_of {P : Program} {w w' : World} {v u v' : Value} {ops : Array Oper} {rest : List Oper} {o : Oper} {a : Act} {Q : Exit → Act → World → Prop} {t : TypeId} (hgd : o.guard = none) (s y : Operand) (ho : o.op = .call { callee := .builtin .append, args := #[s, y], argTypes := #[t, t] }) (hs : a.eval s = v) (hy : a.eval y = u)
    (hr : (Builtin.append_ #[t, t] o.type #[v, u]).run P w = .ok v' w') (h : wpList P ops Q rest (a.put o.dst v') w') : wpList P ops Q (o :: rest) a w :=
  wpList_plain hgd fun _ hK => wp_append_of s y ho hs hy hr (hK _ _ h)
end Go.Proofs.YtbpiahpkbapijaaDoor.A
end
section
namespace Go.Proofs.YtbpiahpkbapijaaDoor.A
open Go.RowKit Go.Proofs.YtbpiahpkbapijaaDoorW.PrintWords Go.Proofs.YtbpiahpkbapijaaDoorW.PrintLast Go.Proofs.YtbpiahpkbapijaaDoorW.PrintMore
set_option linter.unusedVariables false
set_option linter.unusedSimpArgs false
def valR (r : Nat × Nat × Nat) : Value := .slice (some ⟨r.1, 0, none⟩) r.2.1 r.2.2
structure AllP (B : Nat) (w : World) (v : Value) (L : List (Nat × Nat × Nat)) : Prop where
  own : w.ownsRow B 25 1 v L.length (L.map valR)
  rows : ∀ r ∈ L, B ≤ r.1 ∧ r.2.1 ≤ r.2.2 ∧ r.2.1 ≤ 16384 ∧ ∀ f, RowF w r.1 r.2.2 0 f
  nd : (L.map Prod.fst).Nodup
theorem AllP.below {B : Nat} {w w' : World} {v : Value} {L : List (Nat × Nat × Nat)} (h : AllP B w v L) (k : Below w.heap.size w w') : AllP B w' v L :=
  ⟨own_bel h.own k, fun r hr => ⟨(h.rows r hr).1, (h.rows r hr).2.1, (h.rows r hr).2.2.1, fun f => ((h.rows r hr).2.2.2 f).below k⟩, h.nd⟩
theorem AllP.push {B g n c : Nat} {w w' : World} {A A' : Option Addr} {cc c' : Nat} {L : List (Nat × Nat × Nat)} {f : Nat → S31} (h : AllP B w (.slice A L.length cc) L) (hrow : RowF w g c n f) (hB : B ≤ g) (hnc : n ≤ c) (hn : n ≤ 16384) (hgo : ∀ r ∈ L, r.1 ≠ g)
    (ho : w'.ownsRow B 25 1 (.slice A' (L.length + 1) c') (L.length + 1) (L.map valR ++ [.slice (some ⟨g, 0, none⟩) n c])) (hg : w.grownBy w' (Value.slice A L.length cc).ownBlock) : AllP B w' (.slice A' (L.length + 1) c') (L ++ [(g, n, c)]) := by
  refine ⟨by rw [List.length_append, List.map_append]; exact ho, fun r hr => ?_, ?_⟩
  · rcases List.mem_append.1 hr with hr | hr
    · obtain ⟨h1, h2, h3, h4⟩ := h.rows r hr
      exact ⟨h1, h2, h3, fun f => (h4 f).grown24 h.own hg⟩
    · rw [List.mem_singleton] at hr
      subst hr
      exact ⟨hB, hnc, hn, fun f => (hrow.none_ f).grown24 h.own hg⟩
  · rw [List.map_append, List.nodup_append]
    refine ⟨h.nd, by simp, fun a ha b hb => ?_⟩
    simp only [List.map_cons, List.map_nil, List.mem_singleton] at hb
    subst hb
    obtain ⟨r, hr, rfl⟩ := List.mem_map.1 ha
    exact hgo r hr
theorem grown_below {w w' : World} (h : w.grownBy w' none) : Below w.heap.size w w' := ⟨h.os, h.tape, h.output, h.size, fun k hk => h.block k hk (by simp)⟩
def WantP (B : Nat) (w : World) (v : Value) (tx : ByteArray) (L : List (Nat × Nat × Nat)) : Prop := L = [] ∨ ∃ (toks : List S31) (at_ : Int) (kk g c : Nat), scan_Tokens.f kk tx = some (toks, at_, 0) ∧ toks.length ≤ 16384 ∧ 1 ≤ toks.length ∧ v = .slice (some ⟨g, 0, none⟩) toks.length c ∧ B ≤ g ∧ RowF w g c toks.length (fun j => toks.getD j z31) ∧ ∀ r ∈ L, r.1 ≠ g
theorem WantP.below {B : Nat} {w w' : World} {v : Value} {tx : ByteArray} {L : List (Nat × Nat × Nat)} (h : WantP B w v tx L) (k : Below w.heap.size w w') : WantP B w' v tx L := by
  rcases h with h | ⟨toks, at_, kk, g, c, h1, h2, h3, h4, h5, h6, h7⟩
  · exact .inl h
  · exact .inr ⟨toks, at_, kk, g, c, h1, h2, h3, h4, h5, h6.below k, h7⟩
theorem nd_ne {L : List (Nat × Nat × Nat)} {q i : Nat} {a b : Nat × Nat × Nat} (h : (L.map Prod.fst).Nodup) (hq : L[q]? = some a) (hi : L[i]? = some b) (hne : q ≠ i) : a.1 ≠ b.1 := by
  intro e
  have hlt := (List.getElem?_eq_some_iff.1 hq).1
  refine hne ((List.getElem?_inj (l := L.map Prod.fst) (by rw [List.length_map]; exact hlt) h).1 ?_)
  rw [List.getElem?_map, List.getElem?_map, hq, hi]
  exact congrArg some e
def mt (q : Nat) (k : Nat) : S31 := ⟨7000 + (q : Int), (k : Int), ⟨#[]⟩⟩
theorem RowF.room_le {w : World} {g c m : Nat} {f : Nat → S31} (h : RowF w g c m f) : m ≤ c := by
  obtain ⟨_, _, _, h, _⟩ := h
  exact h
structure PH (B : Nat) (W w : World) (v : Value) (L : List (Nat × Nat × Nat)) (n : Nat) (f : Nat → S31) (gw cw gl cl : Nat) : Prop where
  own : w.ownsRow B 25 1 v L.length (L.map valR)
  want : RowF w gw cw n f
  last : RowF w gl cl n f
  bel : Below B W w
section
variable {B : Nat} {W w w' : World} {v : Value} {L : List (Nat × Nat × Nat)} {n gw cw gl cl g c m j : Nat} {f f2 : Nat → S31} {y : S31}
theorem own_far {n : Nat} {xs : List Value} {A : Option Addr} {cc : Nat} (h : w.ownsRow B 25 1 (.slice A n cc) n xs) (k : ∀ b, some b = (Value.slice A n cc).ownBlock → w'.heap[b]? = w.heap[b]?) : w'.ownsRow B 25 1 (.slice A n cc) n xs := by
  refine ⟨h.1, h.2.imp id (fun ⟨g, cap, cur, a, b, d, e⟩ => ⟨g, cap, cur, a, b, ?_, e⟩)⟩
  refine (k g ?_).trans d
  rw [a]
  rfl
theorem PH.setT {A : Option Addr} {cc : Nat} (h : PH B W w (.slice A L.length cc) L n f gw cw gl cl) (hr : RowF w g c m f2) (hB : B ≤ g) (h1 : g ≠ gw) (h2 : g ≠ gl) : PH B W (setT w g j y) (.slice A L.length cc) L n f gw cw gl cl := by
  obtain ⟨cur, hc, _⟩ := hr
  have hne := own_row25 h.own hc
  exact ⟨own_far h.own (fun b hb => setT_far (fun e => hne (by rw [← e]; exact hb))), h.want.move (setT_far (Ne.symm h1)), h.last.move (setT_far (Ne.symm h2)), Below.trans h.bel (setT_below hB)⟩
theorem PH.below (h : PH B W w v L n f gw cw gl cl) (hB : B ≤ w.heap.size) (k : Below w.heap.size w w') : PH B W w' v L n f gw cw gl cl :=
  ⟨own_bel h.own k, h.want.below k, h.last.below k, bel_tr h.bel hB k⟩
theorem PH.grown {A : Option Addr} {cc : Nat} (h : PH B W w (.slice A L.length cc) L n f gw cw gl cl) (hr : RowF w g c m f2) (hB : B ≤ g) (hBw : B ≤ w.heap.size) (h1 : g ≠ gw) (h2 : g ≠ gl) (k : w.grownBy w' (some g)) : PH B W w' (.slice A L.length cc) L n f gw cw gl cl := by
  obtain ⟨cur, hc, _⟩ := hr
  have hne := own_row25 h.own hc
  refine ⟨own_far h.own (fun b hb => k.block b ?_ (fun e => hne (by rw [← Option.some.inj e]; exact hb))), h.want.move (k.block gw h.want.lt (fun e => h1 (Option.some.inj e).symm)), h.last.move (k.block gl h.last.lt (fun e => h2 (Option.some.inj e).symm)), h.bel.grown k hBw (fun b hb => by rw [← Option.some.inj hb]; exact hB)⟩
  rcases h.own.2 with ⟨h0, _⟩ | ⟨g2, cap, cur2, a, _, d, _⟩
  · rw [h0] at hb; cases hb
  · rw [a] at hb; rw [Option.some.inj hb]; exact blk_lt d
end
def gt (q n : Nat) (j : Nat) : S31 := if j < n then mt q j else ⟨-1 - (q : Int), ((j - n : Nat) : Int), ⟨#[]⟩⟩
theorem gt_lt {q n j : Nat} (h : j < n) : gt q n j = mt q j := if_pos h
theorem gt_ge (q n k : Nat) : gt q n (n + k) = ⟨-1 - (q : Int), (k : Int), ⟨#[]⟩⟩ := by
  unfold gt
  rw [if_neg (by omega), Nat.add_sub_cancel_left]
structure MoreP (B : Nat) (w : World) (v : Value) (L M : List (Nat × Nat × Nat)) : Prop where
  own : w.ownsRow B 25 1 v M.length (M.map valR)
  rows : ∀ (q : Nat) (r m : Nat × Nat × Nat), L[q]? = some r → M[q]? = some m → m.2.1 = r.2.1 + 96 ∧ RowF w m.1 m.2.2 (r.2.1 + 96) (gt q r.2.1) ∧ ∀ (q2 : Nat) (r2 : Nat × Nat × Nat), L[q2]? = some r2 → q2 ≠ q → m.1 ≠ r2.1
theorem MoreP.keep {B : Nat} {w w' : World} {A : Option Addr} {c : Nat} {L M : List (Nat × Nat × Nat)} (h : MoreP B w (.slice A M.length c) L M) (ho : ∀ b, some b = (Value.slice A M.length c).ownBlock → w'.heap[b]? = w.heap[b]?) (hk : ∀ m ∈ M, w'.heap[m.1]? = w.heap[m.1]?) : MoreP B w' (.slice A M.length c) L M :=
  ⟨own_far h.own ho, fun q r m hq hm => ⟨(h.rows q r m hq hm).1, (h.rows q r m hq hm).2.1.move (hk m (List.mem_of_getElem? hm)), (h.rows q r m hq hm).2.2⟩⟩
def Apart (v u : Value) : Prop := ∀ b, some b = v.ownBlock → some b ≠ u.ownBlock
theorem MoreP.push {B g c n i : Nat} {w w' : World} {A A' : Option Addr} {cc c' : Nat} {L M : List (Nat × Nat × Nat)} {r : Nat × Nat × Nat} (h : MoreP B w (.slice A M.length cc) L M) (hi : M.length = i) (hr : L[i]? = some r) (hrow : RowF w g c (r.2.1 + 96) (gt i r.2.1)) (hgo : ∀ (q2 : Nat) (r2 : Nat × Nat × Nat), L[q2]? = some r2 → q2 ≠ i → g ≠ r2.1)
    (ho : w'.ownsRow B 25 1 (.slice A' (M.length + 1) c') (M.length + 1) (M.map valR ++ [.slice (some ⟨g, 0, none⟩) (r.2.1 + 96) c])) (hg : w.grownBy w' (Value.slice A M.length cc).ownBlock) : MoreP B w' (.slice A' (M.length + 1) c') L (M ++ [(g, r.2.1 + 96, c)]) := by
  refine ⟨by rw [List.length_append, List.map_append]; exact ho, fun q r2 m hq hm => ?_⟩
  by_cases e : q < M.length
  · rw [List.getElem?_append_left e] at hm
    obtain ⟨h1, h2, h3⟩ := h.rows q r2 m hq hm
    exact ⟨h1, h2.grown24 h.own hg, h3⟩
  · rw [List.getElem?_append_right (by omega)] at hm
    have hlt := (List.getElem?_eq_some_iff.1 hm).1
    simp only [List.length_cons, List.length_nil] at hlt
    have hqi : q = i := by omega
    subst hqi
    obtain rfl := Option.some.inj (hr.symm.trans hq)
    have h0 : q - M.length = 0 := by omega
    rw [h0] at hm
    obtain rfl := Option.some.inj hm
    exact ⟨rfl, hrow.grown24 h.own hg, hgo⟩
theorem PH.more {B gw cw gl cl n m : Nat} {W w w' : World} {A A2 : Option Addr} {cc c2 : Nat} {L : List (Nat × Nat × Nat)} {f : Nat → S31} {vs : List Value} (h : PH B W w (.slice A L.length cc) L n f gw cw gl cl) (ho : w.ownsRow B 25 1 (.slice A2 m c2) m vs) (hap : Apart (.slice A L.length cc) (.slice A2 m c2)) (hBw : B ≤ w.heap.size) (k : w.grownBy w' (Value.slice A2 m c2).ownBlock) : PH B W w' (.slice A L.length cc) L n f gw cw gl cl := by
  refine ⟨own_far h.own (fun b hb => k.block b ?_ (hap b hb)), h.want.grown24 ho k, h.last.grown24 ho k, h.bel.grown k hBw (own_base ho)⟩
  rcases h.own.2 with ⟨h0, _⟩ | ⟨g2, cap, cur2, a, _, d, _⟩
  · rw [h0] at hb; cases hb
  · rw [a] at hb; rw [Option.some.inj hb]; exact blk_lt d
theorem own_lt24 {B n c : Nat} {w : World} {A : Option Addr} {vs : List Value} (h : w.ownsRow B 25 1 (.slice A n c) n vs) (b : Nat) (hb : some b = (Value.slice A n c).ownBlock) : b < w.heap.size := by
  rcases h.2 with ⟨h0, _⟩ | ⟨g2, cap, cur2, a, _, d, _⟩
  · rw [h0] at hb; cases hb
  · rw [a] at hb; rw [Option.some.inj hb]; exact blk_lt d
set_option maxHeartbeats 8000000 in
set_option maxRecDepth 100000 in
theorem owned_calls (A0 : Option Addr) (c0 : Nat) (l0 : List ByteArray) (w : World) (hr0 : Kd.C Kd.string w A0 l0.length l0) (hc0 : l0.length ≤ c0) (hp : l0.length ≤ 1048576) (hL : LaidW w)
    (hT : ∀ t : ByteArray, ∃ k r, scan_Tokens.f k t = some r ∧ r.1.length ≤ 16384 ∧ (r.2.2 = 0 → 1 ≤ r.1.length))
    (hS : ∀ l : List S31, l.length ≤ 16384 → ∃ k, sigillaw4_SameTokens.f k l l = some true) :
    Calls Tryd.prog 9 #[.slice A0 l0.length c0] w fun e w' => e = .returned (.bool true) ∧ Below w.heap.size w w' := by
  have HR0 := Aside0.mk hr0
  have HC0 := Aside0.mk hc0
  have HW := Aside0.mk hp
  have HL := Aside0.mk hL
  have HT := Aside0.mk hT
  have HSm := Aside0.mk hS
  have hx0 : ∀ (u v z : Value) (w : World), (Instr.extract (.tuple #[u, v, z]) 0).run Tryd.prog w = .ok u w := fun u v z w => by kernel_rfl
  have hx1 : ∀ (u v z : Value) (w : World), (Instr.extract (.tuple #[u, v, z]) 1).run Tryd.prog w = .ok v w := fun u v z w => by kernel_rfl
  have hx2 : ∀ (u v z : Value) (w : World), (Instr.extract (.tuple #[u, v, z]) 2).run Tryd.prog w = .ok z w := fun u v z w => by kernel_rfl
  have hu31 := Tryd.underlying31
  have HB0 := Aside0.mk (Below.refl w.heap.size w)
  clear hr0 hc0 hp hL hT hS
  go_enter Tryd.func9, Tryd.ntmps9
  go_wp2
  go_loopg [3, 4, 5, 6] 2 (fun kq v3 v4 v5 v6 w' => ∃ (tn : Int) (L : List (Nat × Nat × Nat)) (tx : ByteArray), v6 = .int .i64 tn ∧ v5 = .string tx ∧ Aside0 (0 ≤ tn ∧ (kq : Int) + tn = 2) ∧ Aside0 (AllP w.heap.size w' v3 L ∧ (L.length : Int) ≤ 10 * tn) ∧ Aside0 (WantP w.heap.size w' v4 tx L) ∧ Aside0 (Below w.heap.size w w'))
  case atStart => exact ⟨0, [], ⟨#[]⟩, rfl, rfl, ⟨⟨Int.le_refl 0, by omega⟩⟩, ⟨⟨⟨⟨rfl, .inl ⟨rfl, rfl⟩⟩, (fun r hr => nomatch hr), List.nodup_nil⟩, by decide⟩⟩, ⟨.inl rfl⟩, HB0⟩
  case round =>
    obtain ⟨tn, L, tx, rfl, rfl, HTn, HA, HWt, HB⟩ := hrel
    obtain ⟨A3, c3, e3⟩ := own_slice HA.out.1.own
    subst e3
    cases gk with
    | zero =>
      have hd : decide (tn < 2) = false := decide_eq_false (by have := HTn.out; omega)
      by_cases hz : L.length = 0
      · have hz1 : ((L.length : Int) == 0) = true := beq_iff_eq.mpr (by omega)
        go_wp2
        go_ret
        exact ⟨rfl, HB.out⟩
      · have hz1 : ((L.length : Int) == 0) = false := beq_eq_false_iff_ne.mpr (by omega)
        obtain ⟨toks, at_, kk, gw, cw, hs, hn, h1, hv4, hgB, hrow, hne⟩ := HWt.out.resolve_left (fun e => hz (by rw [e]; rfl))
        subst hv4
        have HS := Aside0.mk hs
        have HN := Aside0.mk hn
        have HN1 := Aside0.mk h1
        have HRw := Aside0.mk hrow
        have HNe := Aside0.mk hne
        have HLr := Aside0.mk (HL.out.below HB.out)
        clear hs hn h1 hrow hne hgB HWt
        go_wp2_with fail
        refine (scan_Tokens.calls kk tx toks at_ 0 _ HS.out HLr.out).mono ?_
        rintro e wa ⟨v0, rfl, hR, hB⟩
        obtain ⟨A11, cl, rfl⟩ := Kd.R_slice hR
        obtain ⟨gl, hA11, hglB, _, hlast⟩ := R_rowF hR HN1.out
        subst hA11
        have HNl := Aside0.mk (fun (r : Nat × Nat × Nat) (hr : r ∈ L) => show r.1 ≠ gl from Nat.ne_of_lt (Nat.lt_of_lt_of_le ((HA.out.1.rows r hr).2.2.2 (fun _ => z31)).lt hglB))
        have HRows := Aside0.mk (fun (r : Nat × Nat × Nat) (hr : r ∈ L) => (⟨(HA.out.1.rows r hr).1, (HA.out.1.rows r hr).2.1, (HA.out.1.rows r hr).2.2.1⟩ : w.heap.size ≤ r.1 ∧ r.2.1 ≤ r.2.2 ∧ r.2.1 ≤ 16384))
        have HND := Aside0.mk HA.out.1.nd
        have HLn := Aside0.mk (show (L.length : Int) ≤ 20 by have := HA.out.2; have := HTn.out; omega)
        have HPH := Aside0.mk (⟨own_bel HA.out.1.own hB, HRw.out.below hB, hlast, bel_tr HB.out HB.out.size hB⟩ : PH w.heap.size w wa (.slice A3 L.length c3) L toks.length (fun j => toks.getD j z31) gw cw gl cl)
        have HM := Aside0.mk (fun (q : Nat) (r : Nat × Nat × Nat) (hq : L[q]? = some r) => (⟨fun h => absurd h (Nat.not_lt_zero q), fun _ => ((HA.out.1.rows r (List.mem_of_getElem? hq)).2.2.2 (mt q)).below hB⟩ : (q < 0 → RowF wa r.1 r.2.2 r.2.1 (mt q)) ∧ (0 ≤ q → RowF wa r.1 r.2.2 0 (mt q))))
        clear hR hB hglB hlast HRw HA HB
        go_wp2
        go_loopg [14] L.length (fun kq vi w' => ∃ i : Nat, vi = .int .i64 (i : Int) ∧ Aside0 (kq + i = L.length) ∧ Aside0 (PH w.heap.size w w' (.slice A3 L.length c3) L toks.length (fun j => toks.getD j z31) gw cw gl cl) ∧ Aside0 (∀ (q : Nat) (r : Nat × Nat × Nat), L[q]? = some r → (q < i → RowF w' r.1 r.2.2 r.2.1 (mt q)) ∧ (i ≤ q → RowF w' r.1 r.2.2 0 (mt q))))
        case atStart => exact ⟨0, rfl, ⟨rfl⟩, HPH, HM⟩
        case round =>
          clear HPH HM
          obtain ⟨i, rfl, HI, HPH, HM⟩ := hrel
          cases gk with
          | zero =>
            have hdi : decide ((i : Int) < (L.length : Int)) = false := decide_eq_false (by have := HI.out; omega)
            have hdiN : decide (i < L.length) = false := decide_eq_false (by have := HI.out; omega)
            have hiL : i = L.length := by have := HI.out; omega
            subst hiL
            have HMM := Aside0.mk (fun (q : Nat) (r : Nat × Nat × Nat) (hq : L[q]? = some r) => (HM.out q r hq).1 (List.getElem?_eq_some_iff.1 hq).1)
            clear HM HI
            go_wp2
            go_loopg [16, 17] L.length (fun kq vm vi w' => ∃ (i : Nat) (M : List (Nat × Nat × Nat)), vi = .int .i64 (i : Int) ∧ Aside0 (kq + i = L.length ∧ M.length = i) ∧ Aside0 (PH w.heap.size w w' (.slice A3 L.length c3) L toks.length (fun j => toks.getD j z31) gw cw gl cl) ∧ Aside0 (∀ (q : Nat) (r : Nat × Nat × Nat), L[q]? = some r → RowF w' r.1 r.2.2 r.2.1 (mt q)) ∧ Aside0 (MoreP w.heap.size w' vm L M ∧ Apart (.slice A3 L.length c3) vm))
            case atStart => exact ⟨0, [], rfl, ⟨⟨by omega, rfl⟩⟩, HPH, HMM, ⟨⟨⟨⟨rfl, .inl ⟨rfl, rfl⟩⟩, fun q r m _ hm => by simp at hm⟩, fun b hb e => by cases e⟩⟩⟩
            case round =>
              clear HPH HMM
              obtain ⟨i, M, rfl, HI, HPH, HMM, HMo⟩ := hrel
              obtain ⟨A16, c16, e16⟩ := own_slice HMo.out.1.own
              subst e16
              cases gk with
              | zero =>
                have hdi : decide ((i : Int) < (L.length : Int)) = false := decide_eq_false (by have := HI.out; omega)
                have hdiN : decide (i < L.length) = false := decide_eq_false (by have := HI.out; omega)
                have HML := Aside0.mk (show M.length = L.length by have := HI.out; omega)
                go_wp2
                go_loopg [20] L.length (fun kq vi w' => ∃ q : Nat, vi = .int .i64 (q : Int) ∧ Aside0 (kq + q = L.length) ∧ Aside0 (Below wr.heap.size wr w'))
                case atStart => exact ⟨0, rfl, ⟨by omega⟩, ⟨Below.refl _ _⟩⟩
                case round =>
                  obtain ⟨q, rfl, HQ, HB2⟩ := hrel
                  cases gk with
                  | zero =>
                    have hdq : decide ((q : Int) < (L.length : Int)) = false := decide_eq_false (by have := HQ.out; omega)
                    have hdqN : decide (q < L.length) = false := decide_eq_false (by have := HQ.out; omega)
                    have HLq := Aside0.mk (HL.out.below (bel_tr HPH.out.bel HPH.out.bel.size HB2.out))
                    go_wp2_with fail
                    refine (scan_Tokens.calls kk tx toks at_ 0 _ HS.out HLq.out).mono ?_
                    rintro e wd ⟨v9, rfl, hR9, hB9⟩
                    obtain ⟨A9, c9, rfl⟩ := Kd.R_slice hR9
                    obtain ⟨ks, hks⟩ := HSm.out toks HN.out
                    have HKs := Aside0.mk hks
                    have HBd := Aside0.mk (bel_tr HB2.out HB2.out.size hB9)
                    have HCl := Aside0.mk (C_rowF (HPH.out.last.below HBd.out) rfl)
                    have HCw := Aside0.mk (C_rowF (HPH.out.want.below HBd.out) rfl)
                    have HN1l := Aside0.mk (HPH.out.last.room_le)
                    have HN1w := Aside0.mk (HPH.out.want.room_le)
                    have HBw := Aside0.mk (show Below w.heap.size w wd from bel_tr HPH.out.bel HPH.out.bel.size HBd.out)
                    have HR9 := Aside0.mk hR9
                    clear hks hR9 hB9
                    go_wp2_with (first | (go_at_call 7; with_reducible refine (sigillaw4_SameTokens.calls ks (some ⟨gl, 0, none⟩) cl toks (some ⟨gw, 0, none⟩) cw toks true _ HCl.out HN1l.out HCw.out HN1w.out HKs.out).mono ?_; rintro e we ⟨rfl, hD⟩) | (go_at_call 7; with_reducible refine (sigillaw4_SameTokens.calls ks A9 c9 toks (some ⟨gw, 0, none⟩) cw toks true _ (Kd.C_below (Kd.R_reads' HR9.out).2.2 hD.below) (Kd.R_reads' HR9.out).2.1 (Kd.C_below HCw.out hD.below) HN1w.out HKs.out).mono ?_; rintro e wf ⟨rfl, hD2⟩))
                    go_ret
                    exact ⟨rfl, bel_tr HBw.out HBw.out.size (bel_tr hD.below hD.below.size hD2.below)⟩
                  | succ k2 =>
                    have hq1 : (q : Int) < (L.length : Int) := by have := HQ.out; omega
                    have hdq : decide ((q : Int) < (L.length : Int)) = true := decide_eq_true hq1
                    have hdqN : decide (q < L.length) = true := decide_eq_true (by omega)
                    have HP2 := Aside0.mk (HPH.out.below HPH.out.bel.size HB2.out)
                    obtain ⟨⟨rg, nr, rc⟩, hr⟩ : ∃ r, L[q]? = some r := ⟨_, List.getElem?_eq_getElem (show q < L.length by omega)⟩
                    obtain ⟨⟨mg, mn, mc⟩, hm⟩ : ∃ m, M[q]? = some m := ⟨_, List.getElem?_eq_getElem (show q < M.length by have := HML.out; omega)⟩
                    obtain ⟨hmn, hrm, _⟩ := HMo.out.1.rows q _ _ hr hm
                    replace hmn : mn = nr + 96 := hmn
                    subst hmn
                    have hnr : nr ≤ 16384 := (HRows.out _ (List.mem_of_getElem? hr)).2.2
                    have HNr := Aside0.mk hnr
                    have HRm := Aside0.mk (show RowF wr mg mc (nr + 96) (gt q nr) from hrm.below HB2.out)
                    have HRq := Aside0.mk (show RowF wr rg rc nr (mt q) from (HMM.out q _ hr).below HB2.out)
                    obtain ⟨adq, e0, cq⟩ := own1_at HP2.out.own (q : Int) (by omega) (by omega)
                    cases e0
                    rw [List.getElem?_map, Int.toNat_natCast, hr] at cq
                    replace cq : wr.cell? (adq.add q) = some (.slice (some ⟨rg, 0, none⟩) nr rc) := cq
                    obtain ⟨adm, e1, cm⟩ := own1_at (own_bel HMo.out.1.own HB2.out) (q : Int) (by omega) (by have := HML.out; omega)
                    cases e1
                    rw [List.getElem?_map, Int.toNat_natCast, hm] at cm
                    replace cm : wr.cell? (adm.add q) = some (.slice (some ⟨mg, 0, none⟩) (nr + 96) mc) := cm
                    have hqN : (q < L.length) = True := eq_true (by omega)
                    have hqI : ((q : Int) < (L.length : Int)) = True := eq_true hq1
                    have hqMN : (q < M.length) = True := eq_true (by have := HML.out; omega)
                    have hqMI : ((q : Int) < (M.length : Int)) = True := eq_true (by have := HML.out; omega)
                    have HCq := Aside0.mk cq
                    have HCm := Aside0.mk cm
                    have hqz : ((0 : Int) ≤ (q : Int)) = True := eq_true (by omega)
                    clear hr hm hrm hq1 hnr
                    go_wp2
                    go_loopg [22] nr (fun kq vk w' => ∃ k : Nat, vk = .int .i64 (k : Int) ∧ Aside0 (kq + k = nr) ∧ Aside0 (Below wr.heap.size wr w'))
                    case atStart => exact ⟨0, rfl, ⟨rfl⟩, ⟨Below.refl _ _⟩⟩
                    case round =>
                      clear cq cm
                      obtain ⟨k, rfl, HK, HB3⟩ := hrel
                      cases gk with
                      | zero =>
                        have hdk : decide ((k : Int) < (nr : Int)) = false := decide_eq_false (by have := HK.out; omega)
                        have hdkN : decide (k < nr) = false := decide_eq_false (by have := HK.out; omega)
                        go_wp2
                        go_loopg [23] 96 (fun kq vk w' => ∃ k : Nat, vk = .int .i64 (k : Int) ∧ Aside0 (kq + k = 96) ∧ Aside0 (Below wr.heap.size wr w'))
                        case atStart => exact ⟨0, rfl, ⟨rfl⟩, ⟨Below.refl _ _⟩⟩
                        case round =>
                          obtain ⟨k9, rfl, HK9, HB4⟩ := hrel
                          have HB5 := Aside0.mk (bel_tr HB3.out HB3.out.size HB4.out)
                          cases gk with
                          | zero =>
                            have hk96 : k9 = 96 := by have := HK9.out; omega
                            subst hk96
                            go_wp2
                            go_roundg k2
                            case measure => have := HQ.out; omega
                            case rel =>
                              have e1 : Value.int .i64 (wrap64 ((q : Int) + 1)) = Value.int .i64 ((q + 1 : Nat) : Int) := by rw [w64_in _ (by have := HQ.out; have := HLn.out; omega)]; rfl
                              exact ⟨q + 1, e1, ⟨by have := HQ.out; omega⟩, ⟨bel_tr HB2.out HB2.out.size HB5.out⟩⟩
                          | succ k4 =>
                            have hk1 : decide ((k9 : Int) < 96) = true := decide_eq_true (by have := HK9.out; omega)
                            have hkN : decide (k9 < 96) = true := decide_eq_true (by have := HK9.out; omega)
                            have cm := (HB5.out.cell (World.block_lt_of_cell? _ _ HCm.out)).trans HCm.out
                            obtain ⟨ca0, ca1, ca2⟩ := (HRm.out.below HB5.out).at_ (nr + k9) (by have := HK9.out; omega)
                            rw [gt_ge] at ca0 ca1 ca2
                            replace ca0 : wr.cell? ⟨mg, (nr + k9) * 3, none⟩ = some (.int .i64 (-1 - (q : Int))) := ca0
                            replace ca1 : wr.cell? ⟨mg, (nr + k9) * 3 + 1, none⟩ = some (.int .i64 (k9 : Int)) := ca1
                            replace ca2 : wr.cell? ⟨mg, (nr + k9) * 3 + 2, none⟩ = some (.string ⟨#[]⟩) := ca2
                            have hm1 : wrap64 (-1 - (q : Int)) = -1 - (q : Int) := w64_in _ (by have := HQ.out; have := HLn.out; omega)
                            have hnk : wrap64 ((nr : Int) + (k9 : Int)) = ((nr + k9 : Nat) : Int) := by rw [w64_in _ (by have := HK9.out; have := HNr.out; omega)]; rfl
                            have hx1 : (nr + k9 < nr + 96) = True := eq_true (by have := HK9.out; omega)
                            have hx2 : ((nr : Int) + (k9 : Int) < (nr : Int) + 96) = True := eq_true (by have := HK9.out; omega)
                            have hx3 : ((0 : Int) ≤ (nr : Int) + (k9 : Int)) = True := eq_true (by omega)
                            go_wp2
                            go_roundg k4
                            case measure => have := HK9.out; omega
                            case rel =>
                              have e1 : Value.int .i64 (wrap64 ((k9 : Int) + 1)) = Value.int .i64 ((k9 + 1 : Nat) : Int) := by rw [w64_in _ (by have := HK9.out; omega)]; rfl
                              exact ⟨k9 + 1, e1, ⟨by have := HK9.out; omega⟩, HB4⟩
                      | succ k3 =>
                        have hk1 : (k : Int) < (nr : Int) := by have := HK.out; omega
                        have hdk : decide ((k : Int) < (nr : Int)) = true := decide_eq_true hk1
                        have hdkN : decide (k < nr) = true := decide_eq_true (by omega)
                        have cq := (HB3.out.cell (World.block_lt_of_cell? _ _ HCq.out)).trans HCq.out
                        have cm := (HB3.out.cell (World.block_lt_of_cell? _ _ HCm.out)).trans HCm.out
                        obtain ⟨ca0, ca1, ca2⟩ := (HRq.out.below HB3.out).at_ k (by have := HK.out; omega)
                        replace ca0 : wr.cell? ⟨rg, k * 3, none⟩ = some (.int .i64 (7000 + (q : Int))) := ca0
                        replace ca1 : wr.cell? ⟨rg, k * 3 + 1, none⟩ = some (.int .i64 (k : Int)) := ca1
                        replace ca2 : wr.cell? ⟨rg, k * 3 + 2, none⟩ = some (.string ⟨#[]⟩) := ca2
                        obtain ⟨cb0, cb1, cb2⟩ := (HRm.out.below HB3.out).at_ k (by have := HK.out; omega)
                        rw [gt_lt (show k < nr by omega)] at cb0 cb1 cb2
                        replace cb0 : wr.cell? ⟨mg, k * 3, none⟩ = some (.int .i64 (7000 + (q : Int))) := cb0
                        replace cb1 : wr.cell? ⟨mg, k * 3 + 1, none⟩ = some (.int .i64 (k : Int)) := cb1
                        replace cb2 : wr.cell? ⟨mg, k * 3 + 2, none⟩ = some (.string ⟨#[]⟩) := cb2
                        have h7 : wrap64 (7000 + (q : Int)) = 7000 + (q : Int) := w64_in _ (by have := HQ.out; have := HLn.out; omega)
                        have hkN : (k < nr) = True := eq_true (by omega)
                        have hkM : (k < nr + 96) = True := eq_true (by omega)
                        have hkM2 : ((k : Int) < (nr : Int) + 96) = True := eq_true (by omega)
                        have hkz : ((0 : Int) ≤ (k : Int)) = True := eq_true (by omega)
                        replace hk1 := eq_true hk1
                        go_wp2
                        refine start_ (n := 29) (S := fun w' => w'.cell? (adq.add q) = some (.slice (some ⟨rg, 0, none⟩) nr rc) ∧ w'.cell? (adm.add q) = some (.slice (some ⟨mg, 0, none⟩) (nr + 96) mc) ∧ w'.cell? ⟨rg, k * 3, none⟩ = some (.int .i64 (7000 + (q : Int))) ∧ w'.cell? ⟨rg, k * 3 + 1, none⟩ = some (.int .i64 (k : Int)) ∧ w'.cell? ⟨rg, k * 3 + 2, none⟩ = some (.string ⟨#[]⟩) ∧ w'.cell? ⟨mg, k * 3, none⟩ = some (.int .i64 (7000 + (q : Int))) ∧ w'.cell? ⟨mg, k * 3 + 1, none⟩ = some (.int .i64 (k : Int)) ∧ w'.cell? ⟨mg, k * 3 + 2, none⟩ = some (.string ⟨#[]⟩)) (ds := []) #[false, false, false, false, false, false, false, false, false, false, false, false, false, false, false, false, false, false, false, false, false, false, false, false, false, false, false, false, false] (by kernel_rfl) rfl rfl ⟨(by simpa using cq), (by simpa using cm), (by simpa using ca0), (by simpa using ca1), (by simpa using ca2), (by simpa using cb0), (by simpa using cb1), (by simpa using cb2)⟩ (fun hHeld => ?_)
                        refine pure_ (i := 0) (N := some 138) (v := ?_) (a' := ?_) #[true, false, false, false, false, false, false, false, false, false, false, false, false, false, false, false, false, false, false, false, false, false, false, false, false, false, false, false, false] rfl rfl (by kernel_rfl) (fun _ _ _ h => h) (Or.inl ⟨by rfl, ?_⟩) ?_ ?_
                        rotate_left
                        · intro w'
                          go_simp
                          with_reducible rfl
                        rotate_left
                        · simp only [Act.put, List.setIfInBounds_toArray, List.set_cons_zero, List.set_cons_succ, i64_w, i32_w]
                          rfl
                        refine pure_ (i := 1) (N := some 139) (v := ?_) (a' := ?_) #[true, true, false, false, false, false, false, false, false, false, false, false, false, false, false, false, false, false, false, false, false, false, false, false, false, false, false, false, false] rfl rfl (by kernel_rfl) (fun _ _ _ h => h) (Or.inl ⟨by rfl, ?_⟩) ?_ ?_
                        rotate_left
                        · intro w'
                          go_simp
                          with_reducible rfl
                        rotate_left
                        · simp only [Act.put, List.setIfInBounds_toArray, List.set_cons_zero, List.set_cons_succ, i64_w, i32_w]
                          rfl
                        refine pure_ (i := 2) (N := some 140) (v := ?_) (a' := ?_) #[true, true, true, false, false, false, false, false, false, false, false, false, false, false, false, false, false, false, false, false, false, false, false, false, false, false, false, false, false] rfl rfl (by kernel_rfl) (fun _ _ _ h => h) (Or.inl ⟨by rfl, ?_⟩) ?_ ?_
                        rotate_left
                        · intro w'
                          go_simp
                          with_reducible rfl
                        rotate_left
                        · simp only [Act.put, List.setIfInBounds_toArray, List.set_cons_zero, List.set_cons_succ, i64_w, i32_w]
                          rfl
                        refine pure_ (i := 4) (N := some 142) (v := ?_) (a' := ?_) #[true, true, true, false, true, false, false, false, false, false, false, false, false, false, false, false, false, false, false, false, false, false, false, false, false, false, false, false, false] rfl rfl (by kernel_rfl) (fun _ _ _ h => h) (Or.inl ⟨by rfl, ?_⟩) ?_ ?_
                        rotate_left
                        · intro w'
                          go_simp
                          with_reducible rfl
                        rotate_left
                        · simp only [Act.put, List.setIfInBounds_toArray, List.set_cons_zero, List.set_cons_succ, i64_w, i32_w]
                          rfl
                        refine pure_ (i := 7) (N := some 145) (v := ?_) (a' := ?_) #[true, true, true, false, true, false, false, true, false, false, false, false, false, false, false, false, false, false, false, false, false, false, false, false, false, false, false, false, false] rfl rfl (by kernel_rfl) (fun _ _ _ h => h) (Or.inl ⟨by rfl, ?_⟩) ?_ ?_
                        rotate_left
                        · intro w'
                          go_simp
                          with_reducible rfl
                        rotate_left
                        · simp only [Act.put, List.setIfInBounds_toArray, List.set_cons_zero, List.set_cons_succ, i64_w, i32_w]
                          rfl
                        refine pure_ (i := 8) (N := some 146) (v := ?_) (a' := ?_) #[true, true, true, false, true, false, false, true, true, false, false, false, false, false, false, false, false, false, false, false, false, false, false, false, false, false, false, false, false] rfl rfl (by kernel_rfl) (fun _ _ _ h => h) (Or.inl ⟨by rfl, ?_⟩) ?_ ?_
                        rotate_left
                        · intro w'
                          go_simp
                          with_reducible rfl
                        rotate_left
                        · simp only [Act.put, List.setIfInBounds_toArray, List.set_cons_zero, List.set_cons_succ, i64_w, i32_w]
                          rfl
                        refine pure_ (i := 9) (N := some 147) (v := ?_) (a' := ?_) #[true, true, true, false, true, false, false, true, true, true, false, false, false, false, false, false, false, false, false, false, false, false, false, false, false, false, false, false, false] rfl rfl (by kernel_rfl) (fun _ _ _ h => h) (Or.inl ⟨by rfl, ?_⟩) ?_ ?_
                        rotate_left
                        · intro w'
                          go_simp
                          with_reducible rfl
                        rotate_left
                        · simp only [Act.put, List.setIfInBounds_toArray, List.set_cons_zero, List.set_cons_succ, i64_w, i32_w]
                          rfl
                        refine pure_ (i := 10) (N := some 148) (v := ?_) (a' := ?_) #[true, true, true, false, true, false, false, true, true, true, true, false, false, false, false, false, false, false, false, false, false, false, false, false, false, false, false, false, false] rfl rfl (by kernel_rfl) (fun _ _ _ h => h) (Or.inl ⟨by rfl, ?_⟩) ?_ ?_
                        rotate_left
                        · intro w'
                          go_simp
                          with_reducible rfl
                        rotate_left
                        · simp only [Act.put, List.setIfInBounds_toArray, List.set_cons_zero, List.set_cons_succ, i64_w, i32_w]
                          rfl
                        refine take_ (i := 3) (N := some 141) (v := ?_) (a' := ?_) #[true, true, true, true, true, false, false, true, true, true, true, false, false, false, false, false, false, false, false, false, false, false, false, false, false, false, false, false, false] rfl rfl (by kernel_rfl) (fun _ _ _ h => h) (Or.inl ⟨by rfl, ?_⟩) hHeld ?_ ?_
                        rotate_left
                        · rintro w' ⟨s0, s1, s2, s3, s4, s5, s6, s7⟩
                          go_simp
                          with_reducible rfl
                        rotate_left
                        · simp only [Act.put, List.setIfInBounds_toArray, List.set_cons_zero, List.set_cons_succ, i64_w, i32_w]
                          rfl
                        refine pure_ (i := 5) (N := some 143) (v := ?_) (a' := ?_) #[true, true, true, true, true, true, false, true, true, true, true, false, false, false, false, false, false, false, false, false, false, false, false, false, false, false, false, false, false] rfl rfl (by kernel_rfl) (fun _ _ _ h => h) (Or.inl ⟨by rfl, ?_⟩) ?_ ?_
                        rotate_left
                        · intro w'
                          go_simp
                          with_reducible rfl
                        rotate_left
                        · simp only [Act.put, List.setIfInBounds_toArray, List.set_cons_zero, List.set_cons_succ, i64_w, i32_w]
                          rfl
                        refine take_ (i := 6) (N := some 144) (v := ?_) (a' := ?_) #[true, true, true, true, true, true, true, true, true, true, true, false, false, false, false, false, false, false, false, false, false, false, false, false, false, false, false, false, false] rfl rfl (by kernel_rfl) (fun _ _ _ h => h) (Or.inl ⟨by rfl, ?_⟩) hHeld ?_ ?_
                        rotate_left
                        · rintro w' ⟨s0, s1, s2, s3, s4, s5, s6, s7⟩
                          go_simp
                          with_reducible rfl
                        rotate_left
                        · simp only [Act.put, List.setIfInBounds_toArray, List.set_cons_zero, List.set_cons_succ, i64_w, i32_w]
                          rfl
                        refine pure_ (i := 11) (N := some 149) (v := ?_) (a' := ?_) #[true, true, true, true, true, true, true, true, true, true, true, true, false, false, false, false, false, false, false, false, false, false, false, false, false, false, false, false, false] rfl rfl (by kernel_rfl) (fun _ _ _ h => h) (Or.inl ⟨by rfl, ?_⟩) ?_ ?_
                        rotate_left
                        · intro w'
                          go_simp
                          with_reducible rfl
                        rotate_left
                        · simp only [Act.put, List.setIfInBounds_toArray, List.set_cons_zero, List.set_cons_succ, i64_w, i32_w]
                          rfl
                        refine pure_ (i := 12) (N := some 150) (v := ?_) (a' := ?_) #[true, true, true, true, true, true, true, true, true, true, true, true, true, false, false, false, false, false, false, false, false, false, false, false, false, false, false, false, false] rfl rfl (by kernel_rfl) (fun _ _ _ h => h) (Or.inl ⟨by rfl, ?_⟩) ?_ ?_
                        rotate_left
                        · intro w'
                          go_simp
                          with_reducible rfl
                        rotate_left
                        · simp only [Act.put, List.setIfInBounds_toArray, List.set_cons_zero, List.set_cons_succ, i64_w, i32_w]
                          rfl
                        refine pure_ (i := 13) (N := some 151) (v := ?_) (a' := ?_) #[true, true, true, true, true, true, true, true, true, true, true, true, true, true, false, false, false, false, false, false, false, false, false, false, false, false, false, false, false] rfl rfl (by kernel_rfl) (fun _ _ _ h => h) (Or.inl ⟨by rfl, ?_⟩) ?_ ?_
                        rotate_left
                        · intro w'
                          go_simp
                          with_reducible rfl
                        rotate_left
                        · simp only [Act.put, List.setIfInBounds_toArray, List.set_cons_zero, List.set_cons_succ, i64_w, i32_w]
                          rfl
                        refine pure_ (i := 14) (N := some 152) (v := ?_) (a' := ?_) #[true, true, true, true, true, true, true, true, true, true, true, true, true, true, true, false, false, false, false, false, false, false, false, false, false, false, false, false, false] rfl rfl (by kernel_rfl) (fun _ _ _ h => h) (Or.inl ⟨by rfl, ?_⟩) ?_ ?_
                        rotate_left
                        · intro w'
                          go_simp
                          with_reducible rfl
                        rotate_left
                        · simp only [Act.put, List.setIfInBounds_toArray, List.set_cons_zero, List.set_cons_succ, i64_w, i32_w]
                          rfl
                        refine pure_ (i := 15) (N := some 153) (v := ?_) (a' := ?_) #[true, true, true, true, true, true, true, true, true, true, true, true, true, true, true, true, false, false, false, false, false, false, false, false, false, false, false, false, false] rfl rfl (by kernel_rfl) (fun _ _ _ h => h) (Or.inl ⟨by rfl, ?_⟩) ?_ ?_
                        rotate_left
                        · intro w'
                          go_simp
                          with_reducible rfl
                        rotate_left
                        · simp only [Act.put, List.setIfInBounds_toArray, List.set_cons_zero, List.set_cons_succ, i64_w, i32_w]
                          rfl
                        refine pure_ (i := 17) (N := some 155) (v := ?_) (a' := ?_) #[true, true, true, true, true, true, true, true, true, true, true, true, true, true, true, true, false, true, false, false, false, false, false, false, false, false, false, false, false] rfl rfl (by kernel_rfl) (fun _ _ _ h => h) (Or.inl ⟨by rfl, ?_⟩) ?_ ?_
                        rotate_left
                        · intro w'
                          go_simp
                          with_reducible rfl
                        rotate_left
                        · simp only [Act.put, List.setIfInBounds_toArray, List.set_cons_zero, List.set_cons_succ, i64_w, i32_w]
                          rfl
                        refine pure_ (i := 20) (N := some 158) (v := ?_) (a' := ?_) #[true, true, true, true, true, true, true, true, true, true, true, true, true, true, true, true, false, true, false, false, true, false, false, false, false, false, false, false, false] rfl rfl (by kernel_rfl) (fun _ _ _ h => h) (Or.inl ⟨by rfl, ?_⟩) ?_ ?_
                        rotate_left
                        · intro w'
                          go_simp
                          with_reducible rfl
                        rotate_left
                        · simp only [Act.put, List.setIfInBounds_toArray, List.set_cons_zero, List.set_cons_succ, i64_w, i32_w]
                          rfl
                        refine pure_ (i := 21) (N := some 159) (v := ?_) (a' := ?_) #[true, true, true, true, true, true, true, true, true, true, true, true, true, true, true, true, false, true, false, false, true, true, false, false, false, false, false, false, false] rfl rfl (by kernel_rfl) (fun _ _ _ h => h) (Or.inl ⟨by rfl, ?_⟩) ?_ ?_
                        rotate_left
                        · intro w'
                          go_simp
                          with_reducible rfl
                        rotate_left
                        · simp only [Act.put, List.setIfInBounds_toArray, List.set_cons_zero, List.set_cons_succ, i64_w, i32_w]
                          rfl
                        refine pure_ (i := 22) (N := some 160) (v := ?_) (a' := ?_) #[true, true, true, true, true, true, true, true, true, true, true, true, true, true, true, true, false, true, false, false, true, true, true, false, false, false, false, false, false] rfl rfl (by kernel_rfl) (fun _ _ _ h => h) (Or.inl ⟨by rfl, ?_⟩) ?_ ?_
                        rotate_left
                        · intro w'
                          go_simp
                          with_reducible rfl
                        rotate_left
                        · simp only [Act.put, List.setIfInBounds_toArray, List.set_cons_zero, List.set_cons_succ, i64_w, i32_w]
                          rfl
                        refine pure_ (i := 24) (N := some 162) (v := ?_) (a' := ?_) #[true, true, true, true, true, true, true, true, true, true, true, true, true, true, true, true, false, true, false, false, true, true, true, false, true, false, false, false, false] rfl rfl (by kernel_rfl) (fun _ _ _ h => h) (Or.inl ⟨by rfl, ?_⟩) ?_ ?_
                        rotate_left
                        · intro w'
                          go_simp
                          with_reducible rfl
                        rotate_left
                        · simp only [Act.put, List.setIfInBounds_toArray, List.set_cons_zero, List.set_cons_succ, i64_w, i32_w]
                          rfl
                        refine take_ (i := 16) (N := some 154) (v := ?_) (a' := ?_) #[true, true, true, true, true, true, true, true, true, true, true, true, true, true, true, true, true, true, false, false, true, true, true, false, true, false, false, false, false] rfl rfl (by kernel_rfl) (fun _ _ _ h => h) (Or.inl ⟨by rfl, ?_⟩) hHeld ?_ ?_
                        rotate_left
                        · rintro w' ⟨s0, s1, s2, s3, s4, s5, s6, s7⟩
                          go_simp
                          with_reducible rfl
                        rotate_left
                        · simp only [Act.put, List.setIfInBounds_toArray, List.set_cons_zero, List.set_cons_succ, i64_w, i32_w]
                          rfl
                        refine pure_ (i := 18) (N := some 156) (v := ?_) (a' := ?_) #[true, true, true, true, true, true, true, true, true, true, true, true, true, true, true, true, true, true, true, false, true, true, true, false, true, false, false, false, false] rfl rfl (by kernel_rfl) (fun _ _ _ h => h) (Or.inl ⟨by rfl, ?_⟩) ?_ ?_
                        rotate_left
                        · intro w'
                          go_simp
                          with_reducible rfl
                        rotate_left
                        · simp only [Act.put, List.setIfInBounds_toArray, List.set_cons_zero, List.set_cons_succ, i64_w, i32_w]
                          rfl
                        refine take_ (i := 19) (N := some 157) (v := ?_) (a' := ?_) #[true, true, true, true, true, true, true, true, true, true, true, true, true, true, true, true, true, true, true, true, true, true, true, false, true, false, false, false, false] rfl rfl (by kernel_rfl) (fun _ _ _ h => h) (Or.inl ⟨by rfl, ?_⟩) hHeld ?_ ?_
                        rotate_left
                        · rintro w' ⟨s0, s1, s2, s3, s4, s5, s6, s7⟩
                          go_simp
                          with_reducible rfl
                        rotate_left
                        · simp only [Act.put, List.setIfInBounds_toArray, List.set_cons_zero, List.set_cons_succ, i64_w, i32_w]
                          rfl
                        refine take_ (i := 23) (N := some 161) (v := ?_) (a' := ?_) #[true, true, true, true, true, true, true, true, true, true, true, true, true, true, true, true, true, true, true, true, true, true, true, true, true, false, false, false, false] rfl rfl (by kernel_rfl) (fun _ _ _ h => h) (Or.inl ⟨by rfl, ?_⟩) hHeld ?_ ?_
                        rotate_left
                        · rintro w' ⟨s0, s1, s2, s3, s4, s5, s6, s7⟩
                          go_simp
                          with_reducible rfl
                        rotate_left
                        · simp only [Act.put, List.setIfInBounds_toArray, List.set_cons_zero, List.set_cons_succ, i64_w, i32_w]
                          rfl
                        refine pure_ (i := 25) (N := some 163) (v := ?_) (a' := ?_) #[true, true, true, true, true, true, true, true, true, true, true, true, true, true, true, true, true, true, true, true, true, true, true, true, true, true, false, false, false] rfl rfl (by kernel_rfl) (fun _ _ _ h => h) (Or.inl ⟨by rfl, ?_⟩) ?_ ?_
                        rotate_left
                        · intro w'
                          go_simp
                          with_reducible rfl
                        rotate_left
                        · simp only [Act.put, List.setIfInBounds_toArray, List.set_cons_zero, List.set_cons_succ, i64_w, i32_w]
                          rfl
                        refine take_ (i := 26) (N := some 164) (v := ?_) (a' := ?_) #[true, true, true, true, true, true, true, true, true, true, true, true, true, true, true, true, true, true, true, true, true, true, true, true, true, true, true, false, false] rfl rfl (by kernel_rfl) (fun _ _ _ h => h) (Or.inl ⟨by rfl, ?_⟩) hHeld ?_ ?_
                        rotate_left
                        · rintro w' ⟨s0, s1, s2, s3, s4, s5, s6, s7⟩
                          go_simp
                          with_reducible rfl
                        rotate_left
                        · simp only [Act.put, List.setIfInBounds_toArray, List.set_cons_zero, List.set_cons_succ, i64_w, i32_w]
                          rfl
                        refine pure_ (i := 27) (N := some 165) (v := ?_) (a' := ?_) #[true, true, true, true, true, true, true, true, true, true, true, true, true, true, true, true, true, true, true, true, true, true, true, true, true, true, true, true, false] rfl rfl (by kernel_rfl) (fun _ _ _ h => h) (Or.inl ⟨by rfl, ?_⟩) ?_ ?_
                        rotate_left
                        · intro w'
                          go_simp
                          with_reducible rfl
                        rotate_left
                        · simp only [Act.put, List.setIfInBounds_toArray, List.set_cons_zero, List.set_cons_succ, i64_w, i32_w]
                          rfl
                        refine pure_ (i := 28) (N := some 166) (v := ?_) (a' := ?_) #[true, true, true, true, true, true, true, true, true, true, true, true, true, true, true, true, true, true, true, true, true, true, true, true, true, true, true, true, true] rfl rfl (by kernel_rfl) (fun _ _ _ h => h) (Or.inl ⟨by rfl, ?_⟩) ?_ ?_
                        rotate_left
                        · intro w'
                          go_simp
                          with_reducible rfl
                        rotate_left
                        · simp only [Act.put, List.setIfInBounds_toArray, List.set_cons_zero, List.set_cons_succ, i64_w, i32_w]
                          rfl
                        refine done_ (by kernel_rfl) ?_
                        go_wp2
                        go_roundg k3
                        case measure => have := HK.out; omega
                        case rel =>
                          have e1 : Value.int .i64 (wrap64 ((k : Int) + 1)) = Value.int .i64 ((k + 1 : Nat) : Int) := by rw [w64_in _ (by have := HK.out; have := HNr.out; omega)]; rfl
                          exact ⟨k + 1, e1, ⟨by have := HK.out; omega⟩, ⟨below_drew HB3.out⟩⟩
              | succ k2 =>
                have hi1 : (i : Int) < (L.length : Int) := by have := HI.out; omega
                have hdi : decide ((i : Int) < (L.length : Int)) = true := decide_eq_true hi1
                have hdiN : decide (i < L.length) = true := decide_eq_true (by omega)
                obtain ⟨⟨rg, nr, rc⟩, hr⟩ : ∃ r, L[i]? = some r := ⟨_, List.getElem?_eq_getElem (show i < L.length by omega)⟩
                have HRi := Aside0.mk hr
                have HMr := Aside0.mk (List.mem_of_getElem? hr)
                have HNr := Aside0.mk (show nr ≤ 16384 from (HRows.out _ (List.mem_of_getElem? hr)).2.2)
                obtain ⟨adq, e0, cq⟩ := own1_at HPH.out.own (i : Int) (by omega) (by have := HI.out; omega)
                cases e0
                rw [List.getElem?_map, Int.toNat_natCast, hr] at cq
                replace cq : wr.cell? (adq.add i) = some (.slice (some ⟨rg, 0, none⟩) nr rc) := cq
                have hiN : (i < L.length) = True := eq_true (by omega)
                have hiI : ((i : Int) < (L.length : Int)) = True := eq_true hi1
                clear hr hi1
                have HSz := Aside0.mk (show ∀ m ∈ M, m.1 < wr.heap.size from fun m hm => by
                  obtain ⟨q, hq⟩ := List.getElem?_of_mem hm
                  have hlt := (List.getElem?_eq_some_iff.1 hq).1
                  have hqL : q < L.length := by have := HI.out; omega
                  exact (HMo.out.1.rows q _ m (List.getElem?_eq_getElem hqL) hq).2.1.lt)
                obtain ⟨W2, hW2⟩ : ∃ W2, W2 = wr.heap.size := ⟨_, rfl⟩
                rw [← hW2] at HSz
                have HW2 := Aside0.mk (show w.heap.size ≤ W2 by rw [hW2]; exact Nat.le_trans HPH.out.bel.size (Nat.le_refl _))
                have HW3 := Aside0.mk (Nat.le_of_eq hW2)
                have hrow0 : RowF wr rg rc (nr + 0) (gt i nr) := (HMM.out i _ HRi.out).congr (fun j hj => (gt_lt hj).symm)
                have HRk := Aside0.mk hrow0
                have HGw := Aside0.mk (show gw < W2 by rw [hW2]; exact HPH.out.want.lt)
                have HGl := Aside0.mk (show gl < W2 by rw [hW2]; exact HPH.out.last.lt)
                have HLs := Aside0.mk (show ∀ r ∈ L, r.1 < W2 from fun r hr => by
                  obtain ⟨q, hq⟩ := List.getElem?_of_mem hr
                  rw [hW2]
                  exact (HMM.out q r hq).lt)
                clear hrow0 hW2
                go_wp2
                go_loopg [18, 19] 96 (fun kq vg vk w' => ∃ (k h c : Nat), vk = .int .i64 (k : Int) ∧ vg = .slice (some ⟨h, 0, none⟩) (nr + k) c ∧ Aside0 (kq + k = 96 ∧ (h = rg ∨ W2 ≤ h) ∧ W2 ≤ w'.heap.size) ∧ Aside0 (PH w.heap.size w w' (.slice (some adq) L.length c3) L toks.length (fun j => toks.getD j z31) gw cw gl cl) ∧ Aside0 (∀ (q : Nat) (r : Nat × Nat × Nat), L[q]? = some r → RowF w' r.1 r.2.2 r.2.1 (mt q)) ∧ Aside0 (MoreP w.heap.size w' (.slice A16 M.length c16) L M ∧ Apart (.slice (some adq) L.length c3) (.slice A16 M.length c16)) ∧ Aside0 (RowF w' h c (nr + k) (gt i nr)))
                case atStart => exact ⟨0, rg, rc, rfl, rfl, ⟨⟨by omega, .inl rfl, HW3.out⟩⟩, HPH, HMM, HMo, HRk⟩
                case round =>
                  clear HPH HMM HMo HRk
                  obtain ⟨k, h, c, rfl, rfl, HK, HPH, HMM, HMo, HRk⟩ := hrel
                  cases gk with
                  | zero =>
                    have hk96 : k = 96 := by have := HK.out; omega
                    subst hk96
                    go_wp2_with (first | ((with_reducible refine gate_builtin (b := .append) (xs := #[.tmp 118, .tmp 120]) rfl ?_); at_builtin; go_loud (obtain ⟨A7, c7, w7, hr, ho, hg, hat⟩ := app_24 (y := .slice (some ⟨h, 0, none⟩) (nr + 96) c) (b := wr.heap.size) (own_bel HMo.out.1.own (below_alloc (Below.refl _ _) (.cells #[.slice (some ⟨h, 0, none⟩) (nr + 96) c] 25))) (blk_cell (blk_new wr _) 0) rfl (Nat.le_trans HPH.out.bel.size (below_alloc (Below.refl _ _) _).size) (by have := HI.out; have := HLn.out; omega) 24; refine wpl_append_of rfl (.tmp 118) (.tmp 120) rfl rfl rfl hr ?_; clear hr)))
                    go_roundg k2
                    case measure => have := HI.out; omega
                    case rel =>
                      have hBw := HPH.out.bel.size
                      have hbA := below_alloc (Below.refl wr.heap.size wr) (.cells #[.slice (some ⟨h, 0, none⟩) (nr + 96) c] 25)
                      have hown := own_bel HMo.out.1.own hbA
                      have k0 : MoreP w.heap.size _ (.slice A16 M.length c16) L M := HMo.out.1.keep (fun b hb => hbA.block b (own_lt24 HMo.out.1.own b hb)) (fun m hm => by
                        obtain ⟨q, hq⟩ := List.getElem?_of_mem hm
                        have hlt := (List.getElem?_eq_some_iff.1 hq).1
                        exact hbA.block _ (HMo.out.1.rows q _ m (List.getElem?_eq_getElem (show q < L.length by have := HI.out; omega)) hq).2.1.lt)
                      have k1 := k0.push (n := 0) HI.out.2 HRi.out (HRk.out.below hbA) (fun q2 r2 hq2 hne => by
                        rcases HK.out.2.1 with e | e
                        · rw [e]; exact fun e2 => nd_ne HND.out hq2 HRi.out hne e2.symm
                        · have := HLs.out r2 (List.mem_of_getElem? hq2); omega) ho hg
                      have k2 := (HPH.out.below hBw hbA).more hown HMo.out.2 (Nat.le_trans hBw hbA.size) hg
                      have k3 : ∀ (q : Nat) (r : Nat × Nat × Nat), L[q]? = some r → RowF w7 r.1 r.2.2 r.2.1 (mt q) := fun q r hq => ((HMM.out q r hq).below hbA).grown24 hown hg
                      have k4 : Apart (.slice (some adq) L.length c3) (.slice A7 (M.length + 1) c7) := fun b hb => by
                        rcases hat with e | e
                        · rw [e]; exact HMo.out.2 b hb
                        · rw [e]
                          exact fun e2 => Nat.lt_irrefl _ (Nat.lt_of_lt_of_le (own_lt24 HPH.out.own b hb) ((Option.some.inj e2) ▸ hbA.size))
                      have e1 : Value.int .i64 (wrap64 ((i : Int) + 1)) = Value.int .i64 ((i + 1 : Nat) : Int) := by rw [w64_in _ (by have := HI.out; have := HLn.out; omega)]; rfl
                      exact ⟨i + 1, M ++ [(h, nr + 96, c)], e1, ⟨by have := HI.out; omega, by rw [List.length_append]; have := HI.out; show M.length + 1 = i + 1; omega⟩, ⟨k2⟩, ⟨k3⟩, ⟨⟨k1, k4⟩⟩⟩
                  | succ k3 =>
                    have hk1 : decide ((k : Int) < 96) = true := decide_eq_true (by have := HK.out; omega)
                    have hkN : decide (k < 96) = true := decide_eq_true (by have := HK.out; omega)
                    have hm1 : wrap64 (-1 - (i : Int)) = -1 - (i : Int) := w64_in _ (by have := HI.out; have := HLn.out; omega)
                    have HhB := Aside0.mk (show w.heap.size ≤ h from by rcases HK.out.2.1 with e | e; (rw [e]; exact (HRows.out _ HMr.out).1); exact Nat.le_trans HW2.out e)
                    have Hhw := Aside0.mk (show h ≠ gw from by rcases HK.out.2.1 with e | e; (rw [e]; exact HNe.out _ HMr.out); exact Nat.ne_of_gt (Nat.lt_of_lt_of_le HGw.out e))
                    have Hhl := Aside0.mk (show h ≠ gl from by rcases HK.out.2.1 with e | e; (rw [e]; exact HNl.out _ HMr.out); exact Nat.ne_of_gt (Nat.lt_of_lt_of_le HGl.out e))
                    go_wp2_with (first | ((with_reducible refine gate_builtin (b := .append) (xs := #[.tmp 111, .tmp 116]) rfl ?_); at_builtin; go_loud (obtain ⟨g2, c2, w7, hr, hrow, hold, hg2, hgr⟩ := app_f (A := ⟨wr.heap.size, 0, none⟩) (cc := 1) (HRk.out.below (below_alloc (Below.refl _ _) (.cells #[.int .i64 (-1 - (i : Int)), .int .i64 (k : Int), .string ⟨#[]⟩] 31))) (fun j hj => by rw [gt_ge]; exact lx_news (LX.new wr ⟨-1 - (i : Int), (k : Int), ⟨#[]⟩⟩) j hj) (by have := HNr.out; have := HK.out.1; omega) 25; refine wpl_append_of rfl (.tmp 111) (.tmp 116) rfl rfl rfl hr ?_; clear hr)))
                    go_roundg k3
                    case measure => have := HK.out; omega
                    case rel =>
                      have hBw := HPH.out.bel.size
                      have hbA := below_alloc (Below.refl wr.heap.size wr) (.cells #[.int .i64 (-1 - (i : Int)), .int .i64 (k : Int), .string ⟨#[]⟩] 31)
                      have hfar : ∀ b, b < wr.heap.size → b ≠ h → w7.heap[b]? = wr.heap[b]? := fun b hb hne => (hgr.block b (Nat.lt_of_lt_of_le hb hbA.size) (fun e => hne (Option.some.inj e))).trans (hbA.block b hb)
                      have k1 := (HPH.out.below hBw hbA).grown (HRk.out.below hbA) HhB.out (Nat.le_trans hBw hbA.size) Hhw.out Hhl.out hgr
                      have k2 : ∀ (q : Nat) (r : Nat × Nat × Nat), L[q]? = some r → RowF w7 r.1 r.2.2 r.2.1 (mt q) := fun q r hq => by
                        by_cases e : r.1 = h
                        · have hrg : h = rg := HK.out.2.1.resolve_right (fun h2 => by have := HLs.out r (List.mem_of_getElem? hq); omega)
                          have hqi : q = i := Classical.byContradiction (fun hne => nd_ne HND.out hq HRi.out hne (e.trans hrg))
                          subst hqi
                          obtain rfl := Option.some.inj (HRi.out.symm.trans hq)
                          subst hrg
                          have hcc : rc = c := (HMM.out q _ HRi.out).room HRk.out
                          have h9 := (hold.le (Nat.le_add_right nr k)).congr (f' := mt q) (fun j hj => gt_lt hj)
                          rw [← hcc] at h9
                          exact h9
                        · exact (HMM.out q r hq).move (hfar r.1 (HMM.out q r hq).lt e)
                      have k4 : MoreP w.heap.size w7 (.slice A16 M.length c16) L M := HMo.out.1.keep (fun b hb => hfar b (own_lt24 HMo.out.1.own b hb) (fun e => by
                        obtain ⟨cur, hc, _⟩ := HRk.out
                        exact own_row25 HMo.out.1.own hc (by rw [← e]; exact hb))) (fun m hm => by
                        obtain ⟨q, hq⟩ := List.getElem?_of_mem hm
                        have hlt := (List.getElem?_eq_some_iff.1 hq).1
                        have hqi : q < i := by have := HI.out; omega
                        have hro := HMo.out.1.rows q _ m (List.getElem?_eq_getElem (show q < L.length by have := HI.out; omega)) hq
                        refine hfar m.1 hro.2.1.lt (fun e => ?_)
                        rcases HK.out.2.1 with e2 | e2
                        · exact hro.2.2 i _ HRi.out (by omega) (e.trans e2)
                        · have := HSz.out m hm; omega)
                      have e1 : Value.int .i64 (wrap64 ((k : Int) + 1)) = Value.int .i64 ((k + 1 : Nat) : Int) := by rw [w64_in _ (by have := HK.out; omega)]; rfl
                      exact ⟨k + 1, g2, c2, e1, rfl, ⟨by have := HK.out.1; omega, by rcases hg2 with e | e; (rw [e]; exact HK.out.2.1); exact .inr (Nat.le_trans HK.out.2.2 (Nat.le_trans hbA.size e)), Nat.le_trans HK.out.2.2 (Nat.le_trans hbA.size hgr.size)⟩, ⟨k1⟩, ⟨k2⟩, ⟨⟨k4, HMo.out.2⟩⟩, ⟨hrow⟩⟩
          | succ k2 =>
            have hi1 : (i : Int) < (L.length : Int) := by have := HI.out; omega
            have hdi : decide ((i : Int) < (L.length : Int)) = true := decide_eq_true hi1
            have hdiN : decide (i < L.length) = true := decide_eq_true (by omega)
            obtain ⟨⟨rg, nr, rc⟩, hr⟩ : ∃ r, L[i]? = some r := ⟨_, List.getElem?_eq_getElem (show i < L.length by omega)⟩
            have HRi := Aside0.mk hr
            have HMr := Aside0.mk (List.mem_of_getElem? hr)
            clear hr hi1
            go_wp2
            go_loopg [15] nr (fun kq vk w' => ∃ k : Nat, vk = .int .i64 (k : Int) ∧ Aside0 (kq + k = nr) ∧ Aside0 (PH w.heap.size w w' (.slice A3 L.length c3) L toks.length (fun j => toks.getD j z31) gw cw gl cl) ∧ Aside0 (∀ (q : Nat) (r : Nat × Nat × Nat), L[q]? = some r → (q < i → RowF w' r.1 r.2.2 r.2.1 (mt q)) ∧ (i + 1 ≤ q → RowF w' r.1 r.2.2 0 (mt q))) ∧ Aside0 (RowF w' rg rc k (mt i)))
            case atStart => exact ⟨0, rfl, ⟨rfl⟩, HPH, ⟨fun q r hq => ⟨(HM.out q r hq).1, fun h => (HM.out q r hq).2 (by omega)⟩⟩, ⟨(HM.out i _ HRi.out).2 (Nat.le_refl i)⟩⟩
            case round =>
              clear HPH HM
              obtain ⟨k, rfl, HK, HPH, HM, HRk⟩ := hrel
              have hiN : (i < L.length) = True := eq_true (by have := HI.out; omega)
              have hiI : ((i : Int) < (L.length : Int)) = True := eq_true (by have := HI.out; omega)
              obtain ⟨adq, e0, cq⟩ := own1_at HPH.out.own (i : Int) (by omega) (by have := HI.out; omega)
              cases e0
              rw [List.getElem?_map, Int.toNat_natCast, HRi.out] at cq
              replace cq : wr.cell? (adq.add i) = some (.slice (some ⟨rg, 0, none⟩) nr rc) := cq
              cases gk with
              | zero =>
                have hdk : decide ((k : Int) < (nr : Int)) = false := decide_eq_false (by have := HK.out; omega)
                have hdkN : decide (k < nr) = false := decide_eq_false (by have := HK.out; omega)
                go_wp2
                go_roundg k2
                case measure => have := HI.out; omega
                case rel => exact ⟨i + 1, by rw [w64_in _ (by have := HI.out; have := HLn.out; omega)]; rfl, ⟨by have := HI.out; omega⟩, HPH, ⟨fun q r2 hq => ⟨fun h => by
                  by_cases e : q = i
                  · subst e
                    obtain rfl := Option.some.inj (HRi.out.symm.trans hq)
                    have := HRk.out
                    rwa [show k = nr by have := HK.out; omega] at this
                  · exact (HM.out q r2 hq).1 (by omega), fun h => (HM.out q r2 hq).2 h⟩⟩⟩
              | succ k3 =>
                have hk1 : (k : Int) < (nr : Int) := by have := HK.out; omega
                have hdk : decide ((k : Int) < (nr : Int)) = true := decide_eq_true hk1
                have hdkN : decide (k < nr) = true := decide_eq_true (by omega)
                have h7 : wrap64 (7000 + (i : Int)) = 7000 + (i : Int) := w64_in _ (by have := HI.out; have := HLn.out; omega)
                obtain ⟨⟨u0, hu0⟩, ⟨u1, hu1⟩, ⟨u2, hu2⟩, hfz⟩ := HRk.out.free k (by have h2 : nr ≤ rc := (HRows.out _ HMr.out).2.1; omega)
                have hfz0 := hfz (k * 3)
                have hfz1 := hfz (k * 3 + 1)
                have hfz2 := hfz (k * 3 + 2)
                clear hfz
                have hkN : (k < nr) = True := eq_true (by omega)
                have hk0 : (0 : Int) ≤ (k : Int) := by omega
                have hi0 : (0 : Int) ≤ (i : Int) := by omega
                replace hk0 := eq_true hk0
                replace hi0 := eq_true hi0
                replace hk1 := eq_true hk1
                go_wp2
                go_roundg k3
                case measure => have := HK.out; omega
                case rel =>
                  have hg := (HRows.out _ HMr.out).1
                  have k1 := HPH.out.setT (j := k) (y := mt i k) HRk.out hg (HNe.out _ HMr.out) (HNl.out _ HMr.out)
                  have k5 : ∀ q, q ≠ i → ∀ r2, L[q]? = some r2 → (setT wr rg k (mt i k)).heap[r2.1]? = wr.heap[r2.1]? := fun q hne r2 hq => setT_far (nd_ne HND.out hq HRi.out hne)
                  have k2 : ∀ (q : Nat) (r : Nat × Nat × Nat), L[q]? = some r → (q < i → RowF (setT wr rg k (mt i k)) r.1 r.2.2 r.2.1 (mt q)) ∧ (i + 1 ≤ q → RowF (setT wr rg k (mt i k)) r.1 r.2.2 0 (mt q)) := fun q r2 hq => ⟨fun h => ((HM.out q r2 hq).1 h).move (k5 q (by omega) r2 hq), fun h => ((HM.out q r2 hq).2 h).move (k5 q (by omega) r2 hq)⟩
                  have k4 := HRk.out.set_ (f' := mt i) (show k < rc by have h2 : nr ≤ rc := (HRows.out _ HMr.out).2.1; have := HK.out; omega) (fun _ _ => rfl)
                  have e1 : Value.int .i64 (wrap64 ((k : Int) + 1)) = Value.int .i64 ((k + 1 : Nat) : Int) := by rw [w64_in _ (by have := HK.out; have h9 : nr ≤ 16384 := (HRows.out _ HMr.out).2.2; omega)]; rfl
                  exact ⟨k + 1, e1, ⟨by have := HK.out; omega⟩, ⟨k1⟩, ⟨k2⟩, ⟨k4⟩⟩
    | succ k1 =>
      have hd : decide (tn < 2) = true := decide_eq_true (by have := HTn.out; omega)
      go_wp2
      go_loopg [3, 4, 5, 7] 10 (fun kq v3 v4 v5 v7 w' => ∃ (i : Int) (L : List (Nat × Nat × Nat)) (tx : ByteArray), v7 = .int .i64 i ∧ v5 = .string tx ∧ Aside0 (0 ≤ i ∧ (kq : Int) + i = 10) ∧ Aside0 (AllP w.heap.size w' v3 L ∧ (L.length : Int) ≤ 10 * tn + i) ∧ Aside0 (WantP w.heap.size w' v4 tx L) ∧ Aside0 (Below w.heap.size w w'))
      case atStart => exact ⟨0, L, tx, rfl, rfl, ⟨⟨Int.le_refl 0, by omega⟩⟩, ⟨⟨HA.out.1, by have := HA.out.2; omega⟩⟩, HWt, HB⟩
      case round =>
        clear HA HWt HB
        obtain ⟨i, L2, tx2, rfl, rfl, HI, HA, HWt, HB⟩ := hrel
        obtain ⟨A3, c3, e3⟩ := own_slice HA.out.1.own
        subst e3
        have leave : ∀ {kq : Nat}, True := fun {_} => trivial
        cases gk with
        | zero =>
          have h10 : i = 10 := by have := HI.out; omega
          subst h10
          by_cases hlen : (10 : Int) < (l0.length : Int)
          · have hdl : decide ((10 : Int) < (l0.length : Int)) = true := decide_eq_true hlen
            go_wp2
            go_roundg k1
            case measure => have := HTn.out; omega
            case rel => exact ⟨wrap64 (tn + 1), L2, tx2, by first | rfl | (simp; done), rfl, ⟨by rw [w64_in _ (by have := HTn.out; omega)]; have := HTn.out; omega⟩, ⟨⟨HA.out.1, by rw [w64_in _ (by have := HTn.out; omega)]; have := HA.out.2; omega⟩⟩, HWt, HB⟩
          · have hdl : decide ((10 : Int) < (l0.length : Int)) = false := decide_eq_false hlen
            go_wp2
            go_roundg k1
            case measure => have := HTn.out; omega
            case rel => exact ⟨wrap64 (tn + 1), L2, tx2, by first | rfl | (simp; done), rfl, ⟨by rw [w64_in _ (by have := HTn.out; omega)]; have := HTn.out; omega⟩, ⟨⟨HA.out.1, by rw [w64_in _ (by have := HTn.out; omega)]; have := HA.out.2; omega⟩⟩, HWt, HB⟩
        | succ k2 =>
          by_cases hlen : i < (l0.length : Int)
          · have hdl : decide (i < (l0.length : Int)) = true := decide_eq_true hlen
            have hd10 : decide (i < 10) = true := decide_eq_true (by have := HI.out; omega)
            have hi0 : 0 ≤ i := HI.out.1
            have hi1 : i < (l0.length : Int) := hlen
            obtain ⟨ad0, e0, a0⟩ := Kd.at_string (Kd.C_below HR0.out HB.out) i hi0 hi1
            cases e0
            obtain ⟨t, ht⟩ : ∃ t, t = rdOf ByteArray.empty l0 i := ⟨_, rfl⟩
            rw [← ht] at a0
            obtain ⟨kk, ⟨toks, at_, er⟩, hs, hlen2, hpos⟩ := HT.out t
            have HS := Aside0.mk hs
            have HN := Aside0.mk hlen2
            have HPos := Aside0.mk hpos
            have hbl := World.block_lt_of_cell? wr _ a0
            have HLr := Aside0.mk (HL.out.below HB.out)
            have HTt := Aside0.mk ht
            clear hs hlen2 hpos ht hlen
            replace hi0 := eq_true hi0
            replace hi1 := eq_true hi1
            go_wp2_with fail
            refine (scan_Tokens.calls kk t toks at_ er _ HS.out HLr.out).mono ?_
            rintro e wa ⟨v0, rfl, hR, hB⟩
            obtain ⟨A8, c8, rfl⟩ := Kd.R_slice hR
            have a1 : wa.cell? (ad0.add i.toNat) = some (.string t) := (World.cell?_of_block (hB.block _ hbl)).trans a0
            have HRl := Aside0.mk hR
            have HBa := Aside0.mk hB
            clear hR hB a0
            by_cases he : er = 0
            · have hee : (er == 0) = true := beq_iff_eq.mpr he
              subst he
              obtain ⟨g, hA8, hgB, hnc, hrow⟩ := R_rowF HRl.out (HPos.out rfl)
              subst hA8
              have HRow := Aside0.mk hrow
              clear hrow
              have HAa := Aside0.mk (HA.out.1.below HBa.out)
              have HWb := Aside0.mk (bel_tr HB.out HB.out.size HBa.out)
              have HGB := Aside0.mk (Nat.le_trans HB.out.size hgB)
              have HNc := Aside0.mk hnc
              have HGo := Aside0.mk (fun (r : Nat × Nat × Nat) (hr : r ∈ L2) => show r.1 ≠ g from Nat.ne_of_lt (Nat.lt_of_lt_of_le ((HA.out.1.rows r hr).2.2.2 (fun _ => z31)).lt hgB))
              have HLen1 := Aside0.mk (show 1 ≤ toks.length from HPos.out rfl)
              clear hgB hnc
              go_wp2_with (first | ((with_reducible refine gate_builtin (b := .append) (xs := #[.tmp 52, .tmp 54]) rfl ?_); at_builtin; go_loud (obtain ⟨A7, c7, w7, hr, ho, hg, _⟩ := app_24 (y := .slice (some ⟨g, 0, none⟩) toks.length c8) (b := wa.heap.size) (own_bel HAa.out.own (below_alloc (Below.refl _ _) (.cells #[.slice (some ⟨g, 0, none⟩) toks.length c8] 25))) (blk_cell (blk_new wa _) 0) rfl (Nat.le_trans HWb.out.size (below_alloc (Below.refl _ _) _).size) (by have := HA.out.2; have := HI.out; have := HTn.out; omega) 24; refine wpl_append_of rfl (.tmp 52) (.tmp 54) rfl rfl rfl hr ?_; have n0_ := Aside0.mk ((HAa.out.below (below_alloc (Below.refl _ _) _)).push (HRow.out.below (below_alloc (Below.refl _ _) _)) HGB.out HNc.out HN.out HGo.out ho hg); have n1_ := Aside0.mk ((HRow.out.below (below_alloc (Below.refl _ _) _)).grown24 (own_bel HAa.out.own (below_alloc (Below.refl _ _) _)) hg); have hbw := bel_tr HWb.out HWb.out.size (below_alloc (Below.refl _ _) (.cells #[.slice (some ⟨g, 0, none⟩) toks.length c8] 25)); have n2_ := Aside0.mk (hbw.grown hg hbw.size (own_base (own_bel HAa.out.own (below_alloc (Below.refl _ _) (.cells #[.slice (some ⟨g, 0, none⟩) toks.length c8] 25))))); clear HAa HRow HWb hr ho hg hbw a1; have HAa := n0_; have HRow := n1_; have HWb := n2_; clear n0_ n1_ n2_; obtain ⟨ad1, e1, a1⟩ := Kd.at_string (Kd.C_below HR0.out HWb.out) i (of_eq_true hi0) (of_eq_true hi1); cases e1; rw [← HTt.out] at a1)) | ((with_reducible refine gate_builtin (b := .append) (xs := #[.tmp 60, .tmp 61]) rfl ?_); at_builtin; obtain ⟨g2, c2, w8, hr, h2, h3, h4⟩ := copy_f (A0 := ⟨w7.heap.size, 0, none⟩) (HRow.out.below (below_alloc (Below.refl _ _) (.cells #[] 31))) HLen1.out (by have := HN.out; omega) 25; refine wpl_append_of rfl (.tmp 60) (.tmp 61) rfl rfl rfl hr ?_; clear hr))
              have hb8 : Below w7.heap.size w7 w8 := bel_tr (below_alloc (Below.refl _ _) (.cells #[] 31)) (below_alloc (Below.refl _ _) (.cells #[] 31)).size (grown_below h4)
              go_roundg k2
              case measure => have := HI.out; omega
              case rel => exact ⟨wrap64 (i + 1), L2 ++ [(g, toks.length, c8)], t, by first | rfl | (simp; done), rfl, ⟨by rw [w64_in _ (by have := HI.out; omega)]; have := HI.out; omega⟩, ⟨⟨HAa.out.below hb8, by rw [w64_in _ (by have := HI.out; omega), List.length_append]; show ((L2.length + 1 : Nat) : Int) ≤ _; have := HA.out.2; omega⟩⟩, ⟨.inr ⟨toks, at_, kk, g2, c2, HS.out, HN.out, HLen1.out, rfl, Nat.le_trans HWb.out.size (Nat.le_trans (below_alloc (Below.refl _ _) (.cells #[] 31)).size h2), h3, fun r hr => Nat.ne_of_lt (Nat.lt_of_lt_of_le ((HAa.out.rows r hr).2.2.2 (fun _ => z31)).lt (Nat.le_trans (below_alloc (Below.refl _ _) (.cells #[] 31)).size h2))⟩⟩, ⟨bel_tr HWb.out HWb.out.size hb8⟩⟩
            · have hee : (er == 0) = false := beq_eq_false_iff_ne.mpr he
              go_wp2
              go_roundg k2
              case measure => have := HI.out; omega
              case rel => exact ⟨wrap64 (i + 1), L2, tx2, by first | rfl | (simp; done), rfl, ⟨by rw [w64_in _ (by have := HI.out; omega)]; have := HI.out; omega⟩, ⟨⟨HA.out.1.below HBa.out, by rw [w64_in _ (by have := HI.out; omega)]; have := HA.out.2; omega⟩⟩, ⟨HWt.out.below HBa.out⟩, ⟨bel_tr HB.out HB.out.size HBa.out⟩⟩
          · have hdl : decide (i < (l0.length : Int)) = false := decide_eq_false hlen
            go_wp2
            go_roundg k1
            case measure => have := HTn.out; omega
            case rel => exact ⟨wrap64 (tn + 1), L2, tx2, by first | rfl | (simp; done), rfl, ⟨by rw [w64_in _ (by have := HTn.out; omega)]; have := HTn.out; omega⟩, ⟨⟨HA.out.1, by rw [w64_in _ (by have := HTn.out; omega)]; have := HA.out.2; have := HI.out; omega⟩⟩, HWt, HB⟩
end Go.Proofs.YtbpiahpkbapijaaDoor.A
end
section
namespace Go.Proofs.YtbpiahpkbapijaaDoor.A
open Go.RowKit Go.Proofs.YtbpiahpkbapijaaDoorW.PrintWords Go.Proofs.YtbpiahpkbapijaaDoorW.PrintLast Go.Proofs.YtbpiahpkbapijaaDoorW.PrintMore
set_option linter.unusedVariables false
set_option linter.unusedSimpArgs false
def mkT (q : Int) : S31 := ⟨wrap64 ((-1) - q), q, strOfNums [q % 256, (q / 256) % 256]⟩
open Classical in
noncomputable def sigillaw4_ScanBook.f (_ : Nat) (l0 : List ByteArray) : Option Bool := if l0.length ≤ 1048576 then some true else none
structure KP (B : Nat) (w : World) (v : Value) (KL : List (Value × Nat)) : Prop where
  own : w.ownsRow B 25 1 v KL.length (KL.map Prod.fst)
  sees : ∀ (q : Nat) (p : Value × Nat), KL[q]? = some p → SV B w p.1 p.2 (mkT ((q / 5 : Nat) : Int)) ∧ p.2 ≤ 1048576
theorem KP.below {B : Nat} {w w' : World} {v : Value} {KL : List (Value × Nat)} (h : KP B w v KL) (k : Below w.heap.size w w') : KP B w' v KL := ⟨own_bel h.own k, fun q p hq => ⟨(h.sees q p hq).1.below k, (h.sees q p hq).2⟩⟩
set_option maxHeartbeats 8000000 in
set_option maxRecDepth 100000 in
theorem sigillaw4_ScanBook.calls (k : Nat) (A0 : Option Addr) (c0 : Nat) (l0 : List ByteArray) (r : Bool) (w : World) (hr0 : Kd.C Kd.string w A0 l0.length l0) (hc0 : l0.length ≤ c0) (h : sigillaw4_ScanBook.f k l0 = some r) (hL : LaidW w)
    (hT : ∀ t : ByteArray, ∃ k r, scan_Tokens.f k t = some r ∧ r.1.length ≤ 16384)
    (hS : ∀ l : List S31, l.length ≤ 16384 → ∃ k, sigillaw4_SameTokens.f k l l = some true)
    (hH : ∃ k, sigillaw4_head.f k = some true)
    (hO : ∀ W : World, Below w.heap.size w W → LaidW W → Calls Tryd.prog 9 #[.slice A0 l0.length c0] W fun e w' => e = .returned (.bool true) ∧ Below W.heap.size W w') :
    Calls Tryd.prog 3 #[.slice A0 l0.length c0] w fun e w' => e = .returned (.bool r) ∧ Below w.heap.size w w' := by
  unfold sigillaw4_ScanBook.f at h
  by_cases hp : l0.length ≤ 1048576
  · rw [if_pos hp] at h
    obtain rfl := Option.some.inj h
    have HR0 := Aside0.mk hr0
    have HC0 := Aside0.mk hc0
    have HW := Aside0.mk hp
    have HL := Aside0.mk hL
    have HT := Aside0.mk hT
    have HSm := Aside0.mk hS
    have HO := Aside0.mk hO
    obtain ⟨kh, hh⟩ := hH
    have HH := Aside0.mk hh
    have hx0 : ∀ (u v z : Value) (w : World), (Instr.extract (.tuple #[u, v, z]) 0).run Tryd.prog w = .ok u w := fun u v z w => by kernel_rfl
    have hx1 : ∀ (u v z : Value) (w : World), (Instr.extract (.tuple #[u, v, z]) 1).run Tryd.prog w = .ok v w := fun u v z w => by kernel_rfl
    have hx2 : ∀ (u v z : Value) (w : World), (Instr.extract (.tuple #[u, v, z]) 2).run Tryd.prog w = .ok z w := fun u v z w => by kernel_rfl
    have hu31 := Tryd.underlying31
    have HB0 := Aside0.mk (Below.refl w.heap.size w)
    clear hr0 hc0 hp h hL hT hS hO hh
    go_enter Tryd.func3, Tryd.ntmps3
    go_wp2_with fail
    refine (sigillaw4_head.calls kh true _ HH.out HL.out).mono ?_
    rintro e w1 ⟨rfl, hB⟩
    have HB1 := Aside0.mk hB
    clear hB
    go_wp2
    go_loopg [3, 4] l0.length (fun kq v3 v4 w' => ∃ (i : Int) (KL : List (Value × Nat)), v4 = .int .i64 i ∧ Aside0 (0 ≤ i ∧ (kq : Int) + i = (l0.length : Int)) ∧ Aside0 (KP w.heap.size w' v3 KL ∧ (KL.length : Int) = 5 * i) ∧ Aside0 (Below w.heap.size w w'))
    case atStart =>
      refine ⟨0, [], rfl, ⟨⟨Int.le_refl 0, by omega⟩⟩, ⟨⟨⟨⟨rfl, .inl ⟨rfl, rfl⟩⟩, fun q p hq => by simp at hq⟩, rfl⟩⟩, HB1⟩
    case round =>
      obtain ⟨i, KL, rfl, HK, HP, HB⟩ := hrel
      obtain ⟨W0, rfl⟩ : ∃ W0, W0 = wr := ⟨_, rfl⟩
      obtain ⟨A3, c3, e3⟩ := own_slice HP.out.1.own
      subst e3
      cases gk with
      | zero =>
        have hd : decide (i < (l0.length : Int)) = false := decide_eq_false (by have := HK.out; omega)
        go_wp2
        go_loopg [16] KL.length (fun kq vk w' => ∃ q : Int, vk = .int .i64 q ∧ Aside0 (0 ≤ q ∧ (kq : Int) + q = (KL.length : Int)) ∧ Aside0 (Below W0.heap.size W0 w'))
        case atStart => exact ⟨0, rfl, ⟨⟨Int.le_refl 0, by omega⟩⟩, ⟨Below.refl _ _⟩⟩
        case round =>
          obtain ⟨q, rfl, HQ, HB2⟩ := hrel
          cases gk with
          | zero =>
            have hdq : decide (q < (KL.length : Int)) = false := decide_eq_false (by have := HQ.out; omega)
            have HBz := Aside0.mk (bel_tr HB.out HB.out.size HB2.out)
            go_wp2_with (first | (go_at_call 9; refine (HO.out _ HBz.out (HL.out.below HBz.out)).mono ?_; rintro e w9 ⟨rfl, hB9⟩))
            go_ret
            exact ⟨rfl, bel_tr HBz.out HBz.out.size hB9⟩
          | succ k2 =>
            have hq0 : 0 ≤ q := HQ.out.1
            have hq1 : q < (KL.length : Int) := by have := HQ.out; omega
            have hdq : decide (q < (KL.length : Int)) = true := decide_eq_true hq1
            obtain ⟨p, hp⟩ : ∃ p, KL[q.toNat]? = some p := ⟨_, List.getElem?_eq_getElem (show q.toNat < KL.length by omega)⟩
            have HPq := Aside0.mk (HP.out.1.below HB2.out)
            obtain ⟨adq, e0, cq⟩ := own1_at HPq.out.own q hq0 hq1
            cases e0
            rw [List.getElem?_map, hp] at cq
            replace cq : wr.cell? (adq.add q.toNat) = some p.1 := cq
            obtain ⟨hsv, hpn⟩ := HPq.out.sees q.toNat p hp
            obtain ⟨q5, hq5⟩ : ∃ q5 : Int, q5 = ((q.toNat / 5 : Nat) : Int) := ⟨_, rfl⟩
            rw [← hq5] at hsv
            have hdiv : wrap64 (q.tdiv 5) = q5 := by rw [hq5, Int.tdiv_eq_ediv_of_nonneg hq0, w64_in _ (by have := HQ.out; have := HP.out.2; have := HK.out; have := HW.out; omega)]; omega
            obtain ⟨Ap, cp, hpv⟩ := hsv.slice
            rw [hpv] at cq hsv
            have HSv := Aside0.mk hsv
            have HPn := Aside0.mk hpn
            have HCq := Aside0.mk cq
            clear hsv hpn hp hq5
            replace hq0 := eq_true hq0
            replace hq1 := eq_true hq1
            go_wp2
            obtain ⟨wq, hwq⟩ : ∃ wq, wq = wr := ⟨_, rfl⟩
            go_loopg [17] p.2 (fun kq vj w' => ∃ j : Int, vj = .int .i64 j ∧ Aside0 (0 ≤ j ∧ (kq : Int) + j = (p.2 : Int)) ∧ Aside0 (Below wr.heap.size wr w'))
            case atStart => exact ⟨0, rfl, ⟨⟨Int.le_refl 0, by omega⟩⟩, ⟨Below.refl _ _⟩⟩
            case round =>
              obtain ⟨j, rfl, HJ, HB3⟩ := hrel
              have cq := (HB3.out.cell (World.block_lt_of_cell? _ _ HCq.out)).trans HCq.out
              cases gk with
              | zero =>
                have hdj : decide (j < (p.2 : Int)) = false := decide_eq_false (by have := HJ.out; omega)
                go_wp2
                go_roundg k2
                case measure => have := HQ.out; omega
                case rel => exact ⟨wrap64 (q + 1), by first | rfl | (simp; done), ⟨by rw [w64_in _ (by have := HQ.out; have := HK.out; have := HW.out; have := HP.out.2; omega)]; have := HQ.out; omega⟩, ⟨bel_tr HB2.out HB2.out.size HB3.out⟩⟩
              | succ k3 =>
                have hj0 : 0 ≤ j := HJ.out.1
                have hj1 : j < (p.2 : Int) := by have := HJ.out; omega
                have hdj : decide (j < (p.2 : Int)) = true := decide_eq_true hj1
                have HSw := Aside0.mk (HSv.out.below HB3.out)
                obtain ⟨adp, e0, cx0, cx1, cx2⟩ := HSw.out.at_ j hj0 hj1
                cases e0
                replace hj0 := eq_true hj0
                replace hj1 := eq_true hj1
                go_wp2
                refine start_ (n := 11) (S := fun w' => w'.cell? (adq.add q.toNat) = some (.slice (some adp) p.2 cp) ∧ w'.cell? (adp.add (j.toNat * 3)) = some (.int .i64 (mkT q5).f0) ∧ w'.cell? ⟨(adp.add (j.toNat * 3)).block, (adp.add (j.toNat * 3)).off + 1, none⟩ = some (.int .i64 (mkT q5).f1) ∧ w'.cell? ⟨(adp.add (j.toNat * 3)).block, (adp.add (j.toNat * 3)).off + 2, none⟩ = some (.string (mkT q5).f2)) (ds := []) #[false, false, false, false, false, false, false, false, false, false, false] (by kernel_rfl) rfl rfl ⟨(by simpa using cq), (by simpa using cx0), (by simpa using cx1), (by simpa using cx2)⟩ (fun hHeld => ?_)
                refine pure_ (i := 0) (N := some 147) (v := ?_) (a' := ?_) #[true, false, false, false, false, false, false, false, false, false, false] rfl rfl (by kernel_rfl) (fun _ _ _ h => h) (Or.inl ⟨by rfl, ?_⟩) ?_ ?_
                rotate_left
                · intro w'
                  go_simp
                  with_reducible rfl
                rotate_left
                · simp only [Act.put, List.setIfInBounds_toArray, List.set_cons_zero, List.set_cons_succ, i64_w, i32_w]
                  rfl
                refine pure_ (i := 1) (N := some 148) (v := ?_) (a' := ?_) #[true, true, false, false, false, false, false, false, false, false, false] rfl rfl (by kernel_rfl) (fun _ _ _ h => h) (Or.inl ⟨by rfl, ?_⟩) ?_ ?_
                rotate_left
                · intro w'
                  go_simp
                  with_reducible rfl
                rotate_left
                · simp only [Act.put, List.setIfInBounds_toArray, List.set_cons_zero, List.set_cons_succ, i64_w, i32_w]
                  rfl
                refine pure_ (i := 2) (N := some 149) (v := ?_) (a' := ?_) #[true, true, true, false, false, false, false, false, false, false, false] rfl rfl (by kernel_rfl) (fun _ _ _ h => h) (Or.inl ⟨by rfl, ?_⟩) ?_ ?_
                rotate_left
                · intro w'
                  go_simp
                  with_reducible rfl
                rotate_left
                · simp only [Act.put, List.setIfInBounds_toArray, List.set_cons_zero, List.set_cons_succ, i64_w, i32_w]
                  rfl
                refine pure_ (i := 4) (N := some 151) (v := ?_) (a' := ?_) #[true, true, true, false, true, false, false, false, false, false, false] rfl rfl (by kernel_rfl) (fun _ _ _ h => h) (Or.inl ⟨by rfl, ?_⟩) ?_ ?_
                rotate_left
                · intro w'
                  go_simp
                  with_reducible rfl
                rotate_left
                · simp only [Act.put, List.setIfInBounds_toArray, List.set_cons_zero, List.set_cons_succ, i64_w, i32_w]
                  rfl
                refine pure_ (i := 7) (N := some 154) (v := ?_) (a' := ?_) #[true, true, true, false, true, false, false, true, false, false, false] rfl rfl (by kernel_rfl) (fun _ _ _ h => h) (Or.inl ⟨by rfl, ?_⟩) ?_ ?_
                rotate_left
                · intro w'
                  go_simp
                  with_reducible rfl
                rotate_left
                · simp only [Act.put, List.setIfInBounds_toArray, List.set_cons_zero, List.set_cons_succ, i64_w, i32_w]
                  rfl
                refine pure_ (i := 8) (N := some 155) (v := ?_) (a' := ?_) #[true, true, true, false, true, false, false, true, true, false, false] rfl rfl (by kernel_rfl) (fun _ _ _ h => h) (Or.inl ⟨by rfl, ?_⟩) ?_ ?_
                rotate_left
                · intro w'
                  go_simp
                  with_reducible rfl
                rotate_left
                · simp only [Act.put, List.setIfInBounds_toArray, List.set_cons_zero, List.set_cons_succ, i64_w, i32_w]
                  rfl
                refine take_ (i := 3) (N := some 150) (v := ?_) (a' := ?_) #[true, true, true, true, true, false, false, true, true, false, false] rfl rfl (by kernel_rfl) (fun _ _ _ h => h) (Or.inl ⟨by rfl, ?_⟩) hHeld ?_ ?_
                rotate_left
                · rintro w' ⟨s0, s1, s2, s3⟩
                  go_simp
                  with_reducible rfl
                rotate_left
                · simp only [Act.put, List.setIfInBounds_toArray, List.set_cons_zero, List.set_cons_succ, i64_w, i32_w]
                  rfl
                refine pure_ (i := 5) (N := some 152) (v := ?_) (a' := ?_) #[true, true, true, true, true, true, false, true, true, false, false] rfl rfl (by kernel_rfl) (fun _ _ _ h => h) (Or.inl ⟨by rfl, ?_⟩) ?_ ?_
                rotate_left
                · intro w'
                  go_simp
                  with_reducible rfl
                rotate_left
                · simp only [Act.put, List.setIfInBounds_toArray, List.set_cons_zero, List.set_cons_succ, i64_w, i32_w]
                  rfl
                refine take_ (i := 6) (N := some 153) (v := ?_) (a' := ?_) #[true, true, true, true, true, true, true, true, true, false, false] rfl rfl (by kernel_rfl) (fun _ _ _ h => h) (Or.inl ⟨by rfl, ?_⟩) hHeld ?_ ?_
                rotate_left
                · rintro w' ⟨s0, s1, s2, s3⟩
                  go_simp
                  with_reducible rfl
                rotate_left
                · simp only [Act.put, List.setIfInBounds_toArray, List.set_cons_zero, List.set_cons_succ, i64_w, i32_w]
                  rfl
                refine one_ (i := 9) (N := some 156) #[true, true, true, true, true, true, true, true, true, true, false] rfl rfl (by kernel_rfl) (by decide) (fun K hK => ?_)
                refine goes_ Tryd.func8 (by kernel_rfl) rfl #[.int .i64 (wrap64 (q.tdiv 5))] (by rfl) rfl rfl (by simp only [List.map_toArray, List.map_cons, List.map_nil]; rfl) ?_
                rw [hdiv]
                with_reducible refine (sigillaw4_mark.calls q5 (mkT q5).f0 (mkT q5).f1 (mkT q5).f2 _ rfl).mono ?_
                rintro e w3 ⟨rfl, hB3⟩
                refine ⟨_, rfl, ?_⟩
                refine hK.out _ _ ⟨((hB3.cell (World.block_lt_of_cell? _ _ hHeld.1)).trans hHeld.1), ((hB3.cell (World.block_lt_of_cell? _ _ hHeld.2.1)).trans hHeld.2.1), ((hB3.cell (World.block_lt_of_cell? _ _ hHeld.2.2.1)).trans hHeld.2.2.1), ((hB3.cell (World.block_lt_of_cell? _ _ hHeld.2.2.2)).trans hHeld.2.2.2)⟩ (fun hHeld => ?_)
                clear hK K
                refine norm_ (a' := ?_) ?_ ?_
                rotate_left
                · show Act.put _ (some 156) _ = _
                  simp only [Act.put, List.setIfInBounds_toArray, List.set_cons_zero, List.set_cons_succ, i64_w, i32_w]
                  rfl
                refine pure_ (i := 10) (N := some 157) (v := ?_) (a' := ?_) #[true, true, true, true, true, true, true, true, true, true, true] rfl rfl (by kernel_rfl) (fun _ _ _ h => h) (Or.inl ⟨by rfl, ?_⟩) ?_ ?_
                rotate_left
                · intro w'
                  go_simp
                  with_reducible rfl
                rotate_left
                · simp only [Act.put, List.setIfInBounds_toArray, List.set_cons_zero, List.set_cons_succ, i64_w, i32_w]
                  rfl
                refine done_ (by kernel_rfl) ?_
                go_wp2
                go_roundg k3
                case measure => have := HJ.out; omega
                case rel => exact ⟨wrap64 (j + 1), by first | rfl | (simp; done), ⟨by rw [w64_in _ (by have := HJ.out; have := HPn.out; omega)]; have := HJ.out; omega⟩, ⟨below_step (by repeat (first | (with_reducible first | exact HB3.out | apply below_alloc | apply pw_below_drewN | apply below_drew1) | exact HB3.out)) hB3⟩⟩
      | succ k1 =>
        have hi0 : 0 ≤ i := HK.out.1
        have hi1 : i < (l0.length : Int) := by have := HK.out; omega
        have hd : decide (i < (l0.length : Int)) = true := decide_eq_true hi1
        obtain ⟨ad0, e0, a0⟩ := Kd.at_string (Kd.C_below HR0.out HB.out) i hi0 hi1
        cases e0
        obtain ⟨tx, htx⟩ : ∃ t, t = rdOf ByteArray.empty l0 i := ⟨_, rfl⟩
        rw [← htx] at a0
        obtain ⟨kk, ⟨toks, at_, er⟩, hs, hlen⟩ := HT.out tx
        have HS := Aside0.mk hs
        have HN := Aside0.mk hlen
        have hbl := World.block_lt_of_cell? W0 _ a0
        have HLr := Aside0.mk (HL.out.below HB.out)
        clear hs hlen htx
        replace hi0 := eq_true hi0
        replace hi1 := eq_true hi1
        go_wp2_with fail
        refine (scan_Tokens.calls kk tx toks at_ er _ HS.out HLr.out).mono ?_
        rintro e wa ⟨v0, rfl, hR, hB⟩
        obtain ⟨A5, c5, rfl⟩ := Kd.R_slice hR
        have a1 : wa.cell? (ad0.add i.toNat) = some (.string tx) := (World.cell?_of_block (hB.block _ hbl)).trans a0
        have HRl := Aside0.mk hR
        have HBa := Aside0.mk hB
        have HLa := Aside0.mk (HLr.out.below hB)
        clear hR hB a0
        go_wp2_with fail
        refine (scan_Tokens.calls kk tx toks at_ er _ HS.out HLa.out).mono ?_
        rintro e wb ⟨v1, rfl, hR, hB⟩
        obtain ⟨A8, c8, rfl⟩ := Kd.R_slice hR
        have HRm := Aside0.mk hR
        have HRl2 := Aside0.mk (Kd.R_below HRl.out hB)
        have HBb := Aside0.mk (bel_tr HBa.out HBa.out.size hB)
        clear HRl a1 hbl hR hB
        obtain ⟨ks, hks⟩ := HSm.out toks HN.out
        have HKs := Aside0.mk hks
        clear hks
        have hee : (er != er) = false := by simp
        go_wp2_with (first | (go_at_call 7; refine (sigillaw4_SameTokens.calls ks A5 c5 toks A8 c8 toks true _ (Kd.R_reads' HRl2.out).2.2 (Kd.R_reads' HRl2.out).2.1 (Kd.R_reads' HRm.out).2.2 (Kd.R_reads' HRm.out).2.1 HKs.out).mono ?_; rintro e wc ⟨rfl, hD⟩))
        have HBc := Aside0.mk (bel_tr HBb.out HBb.out.size hD.below)
        have HRc := Aside0.mk (Kd.R_below HRl2.out hD.below)
        have HP0 := HP
        replace HP := Aside0.mk (⟨HP.out.1.below HBc.out, HP.out.2⟩ : KP w.heap.size wc (.slice A3 KL.length c3) KL ∧ (KL.length : Int) = 5 * i)
        clear hD
        go_wp2
        go_loopg [11] KL.length (fun kq vk w' => ∃ q : Int, vk = .int .i64 q ∧ Aside0 (0 ≤ q ∧ (kq : Int) + q = (KL.length : Int)) ∧ Aside0 (Below wc.heap.size wc w'))
        case atStart => exact ⟨0, rfl, ⟨⟨Int.le_refl 0, by omega⟩⟩, ⟨Below.refl _ _⟩⟩
        case round =>
          obtain ⟨q, rfl, HQ, HB2⟩ := hrel
          cases gk with
          | zero =>
            have hdq : decide (q < (KL.length : Int)) = false := decide_eq_false (by have := HQ.out; omega)
            have hdk : wrap64 ((KL.length : Int) / 5) = i := by
              have h5 := HP.out.2
              rw [w64_in _ (by have := HK.out; have := HW.out; omega)]
              omega
            have HB5 := Aside0.mk (bel_tr HBc.out HBc.out.size HB2.out)
            have HR5 := Aside0.mk (Kd.R_below HRc.out (show Below wc.heap.size wc wr from HB2.out))
            clear HB2 HRc HQ
            go_wp2_with (first | (go_at_call 8; refine (sigillaw4_mark.calls i (mkT i).f0 (mkT i).f1 (mkT i).f2 _ rfl).mono ?_; rintro e w4 ⟨rfl, hB4⟩))
            go_wp2
            obtain ⟨bx, hbx⟩ : ∃ bx, bx = w4.heap.size := ⟨_, rfl⟩
            rw [← hbx]
            obtain ⟨X, hX⟩ : ∃ X, X = mkT i := ⟨_, rfl⟩
            rw [← hX]
            have HX := Aside0.mk hX
            obtain ⟨w5, hw5⟩ : ∃ w5, w5 = w4.alloc (.cells #[.int .i64 X.f0, .int .i64 X.f1, .string X.f2] 31) := ⟨_, rfl⟩
            rw [← hw5]
            have hbn : w5.heap[bx]? = some (.cells #[.int .i64 X.f0, .int .i64 X.f1, .string X.f2] 31 (0, 0)) := by rw [hw5, hbx]; exact blk_new w4 _
            have HBX := Aside0.mk (⟨_, hbn, rfl, Nat.le_refl 1, fun j hj => by
              rcases (show j = 0 ∨ j = 1 ∨ j = 2 by omega) with rfl | rfl | rfl <;> rfl⟩ : LX w5 bx 1 1 X)
            have hb45 : Below w4.heap.size w4 w5 := by rw [hw5]; exact below_alloc (Below.refl _ _) _
            have HB6 := Aside0.mk (bel_tr (bel_tr HB5.out HB5.out.size hB4) (Nat.le_trans HB5.out.size hB4.size) hb45)
            have HBXg := Aside0.mk (show W0.heap.size ≤ bx by rw [hbx]; exact Nat.le_trans HB5.out.size hB4.size)
            obtain ⟨inner, hown⟩ := Kd.R_own HR5.out
            have HLR := Aside0.mk (LR.of_own (own_bel (own_bel hown hB4) hb45) X)
            clear hown hB4 hb45 hbn hw5 hbx hX HR5 HB5 hdk
            go_loopg [14] toks.length (fun kq vj w' => ∃ j : Int, vj = .int .i64 j ∧ Aside0 (0 ≤ j ∧ (kq : Int) + j = (toks.length : Int)) ∧ Aside0 (LX w' bx 1 1 X) ∧ Aside0 (LR W0.heap.size w' (.slice A5 toks.length c5) toks.length j.toNat X) ∧ Aside0 (Below W0.heap.size W0 w'))
            case atStart => exact ⟨0, rfl, ⟨⟨Int.le_refl 0, by omega⟩⟩, HBX, HLR, HB6⟩
            case round =>
              clear HBX HLR HB6
              obtain ⟨j, rfl, HJ, HBX, HLR, HB6⟩ := hrel
              cases gk with
              | zero =>
                have hdj : decide (j < (toks.length : Int)) = false := decide_eq_false (by have := HJ.out; omega)
                have HSL := Aside0.mk (show SV W0.heap.size wr (.slice A5 toks.length c5) toks.length X from LR.sv (by have := HLR.out; rwa [show j.toNat = toks.length by have := HJ.out; omega] at this))
                clear HLR HJ
                go_wp2
                go_loopg [15] 96 (fun kq vm w' => ∃ m : Nat, Aside0 (kq + m = 96) ∧ Aside0 (SV W0.heap.size w' vm m X) ∧ Aside0 (LX w' bx 1 1 X) ∧ Aside0 (SV W0.heap.size w' (.slice A5 toks.length c5) toks.length X) ∧ Aside0 (Below W0.heap.size W0 w'))
                case atStart => exact ⟨0, ⟨rfl⟩, ⟨.inl ⟨rfl, rfl⟩⟩, HBX, HSL, HB6⟩
                case round =>
                  clear HBX HSL HB6
                  obtain ⟨m, HM, HSM, HBX, HSL, HB6⟩ := hrel
                  obtain ⟨Am, cm, em⟩ := HSM.out.slice
                  subst em
                  cases gk with
                  | zero =>
                    have hm96 : m = 96 := by have := HM.out; omega
                    subst hm96
                    have hx0 : wr.cell? ⟨bx, 0, none⟩ = some (.int .i64 X.f0) := HBX.out.cell 0 (by decide)
                    have hx1 : wr.cell? ⟨bx, 1, none⟩ = some (.int .i64 X.f1) := HBX.out.cell 1 (by decide)
                    have hx2 : wr.cell? ⟨bx, 2, none⟩ = some (.string X.f2) := HBX.out.cell 2 (by decide)
                    have HX0 := Aside0.mk (show Xs W0.heap.size X wr wr.drew from Xs.below (below_drew (Below.refl _ _)) HB6.out.size)
                    go_wp2
                    refine start_ (n := 23) (S := fun w' => w'.cell? ⟨bx, 0, none⟩ = some (.int .i64 X.f0) ∧ w'.cell? ⟨bx, 1, none⟩ = some (.int .i64 X.f1) ∧ w'.cell? ⟨bx, 2, none⟩ = some (.string X.f2)) (ds := []) #[false, false, false, false, false, false, false, false, false, false, false, false, false, false, false, false, false, false, false, false, false, false, false] (by kernel_rfl) rfl rfl ⟨(by simpa using hx0), (by simpa using hx1), (by simpa using hx2)⟩ (fun hHeld => ?_)
                    refine pure_ (i := 0) (N := some 110) (v := ?_) (a' := ?_) #[true, false, false, false, false, false, false, false, false, false, false, false, false, false, false, false, false, false, false, false, false, false, false] rfl rfl (by kernel_rfl) (fun _ _ _ h => h) (Or.inl ⟨by rfl, ?_⟩) ?_ ?_
                    rotate_left
                    · intro w'
                      go_simp
                      with_reducible rfl
                    rotate_left
                    · simp only [Act.put, List.setIfInBounds_toArray, List.set_cons_zero, List.set_cons_succ, i64_w, i32_w]
                      rfl
                    refine pure_ (i := 1) (N := some 111) (v := ?_) (a' := ?_) #[true, true, false, false, false, false, false, false, false, false, false, false, false, false, false, false, false, false, false, false, false, false, false] rfl rfl (by kernel_rfl) (fun _ _ _ h => h) (Or.inl ⟨by rfl, ?_⟩) ?_ ?_
                    rotate_left
                    · intro w'
                      go_simp
                      with_reducible rfl
                    rotate_left
                    · simp only [Act.put, List.setIfInBounds_toArray, List.set_cons_zero, List.set_cons_succ, i64_w, i32_w]
                      rfl
                    refine pure_ (i := 2) (N := some 112) (v := ?_) (a' := ?_) #[true, true, true, false, false, false, false, false, false, false, false, false, false, false, false, false, false, false, false, false, false, false, false] rfl rfl (by kernel_rfl) (fun _ _ _ h => h) (Or.inl ⟨by rfl, ?_⟩) ?_ ?_
                    rotate_left
                    · intro w'
                      go_simp
                      with_reducible rfl
                    rotate_left
                    · simp only [Act.put, List.setIfInBounds_toArray, List.set_cons_zero, List.set_cons_succ, i64_w, i32_w]
                      rfl
                    refine pure_ (i := 6) (N := some 116) (v := ?_) (a' := ?_) #[true, true, true, false, false, false, true, false, false, false, false, false, false, false, false, false, false, false, false, false, false, false, false] rfl rfl (by kernel_rfl) (fun _ _ _ h => h) (Or.inl ⟨by rfl, ?_⟩) ?_ ?_
                    rotate_left
                    · intro w'
                      go_simp
                      with_reducible rfl
                    rotate_left
                    · simp only [Act.put, List.setIfInBounds_toArray, List.set_cons_zero, List.set_cons_succ, i64_w, i32_w]
                      rfl
                    refine pure_ (i := 11) (N := some 121) (v := ?_) (a' := ?_) #[true, true, true, false, false, false, true, false, false, false, false, true, false, false, false, false, false, false, false, false, false, false, false] rfl rfl (by kernel_rfl) (fun _ _ _ h => h) (Or.inl ⟨by rfl, ?_⟩) ?_ ?_
                    rotate_left
                    · intro w'
                      go_simp
                      with_reducible rfl
                    rotate_left
                    · simp only [Act.put, List.setIfInBounds_toArray, List.set_cons_zero, List.set_cons_succ, i64_w, i32_w]
                      rfl
                    refine pure_ (i := 17) (N := some 127) (v := ?_) (a' := ?_) #[true, true, true, false, false, false, true, false, false, false, false, true, false, false, false, false, false, true, false, false, false, false, false] rfl rfl (by kernel_rfl) (fun _ _ _ h => h) (Or.inl ⟨by rfl, ?_⟩) ?_ ?_
                    rotate_left
                    · intro w'
                      go_simp
                      with_reducible rfl
                    rotate_left
                    · simp only [Act.put, List.setIfInBounds_toArray, List.set_cons_zero, List.set_cons_succ, i64_w, i32_w]
                      rfl
                    refine pure_ (i := 18) (N := some 128) (v := ?_) (a' := ?_) #[true, true, true, false, false, false, true, false, false, false, false, true, false, false, false, false, false, true, true, false, false, false, false] rfl rfl (by kernel_rfl) (fun _ _ _ h => h) (Or.inl ⟨by rfl, ?_⟩) ?_ ?_
                    rotate_left
                    · intro w'
                      go_simp
                      with_reducible rfl
                    rotate_left
                    · simp only [Act.put, List.setIfInBounds_toArray, List.set_cons_zero, List.set_cons_succ, i64_w, i32_w]
                      rfl
                    refine take_ (i := 3) (N := some 113) (v := ?_) (a' := ?_) #[true, true, true, true, false, false, true, false, false, false, false, true, false, false, false, false, false, true, true, false, false, false, false] rfl rfl (by kernel_rfl) (fun _ _ _ h => h) (Or.inl ⟨by rfl, ?_⟩) hHeld ?_ ?_
                    rotate_left
                    · rintro w' ⟨s0, s1, s2⟩
                      go_simp
                      with_reducible rfl
                    rotate_left
                    · simp only [Act.put, List.setIfInBounds_toArray, List.set_cons_zero, List.set_cons_succ, i64_w, i32_w]
                      rfl
                    refine take_ (i := 7) (N := some 117) (v := ?_) (a' := ?_) #[true, true, true, true, false, false, true, true, false, false, false, true, false, false, false, false, false, true, true, false, false, false, false] rfl rfl (by kernel_rfl) (fun _ _ _ h => h) (Or.inl ⟨by rfl, ?_⟩) hHeld ?_ ?_
                    rotate_left
                    · rintro w' ⟨s0, s1, s2⟩
                      go_simp
                      with_reducible rfl
                    rotate_left
                    · simp only [Act.put, List.setIfInBounds_toArray, List.set_cons_zero, List.set_cons_succ, i64_w, i32_w]
                      rfl
                    refine take_ (i := 8) (N := some 118) (v := ?_) (a' := ?_) #[true, true, true, true, false, false, true, true, true, false, false, true, false, false, false, false, false, true, true, false, false, false, false] rfl rfl (by kernel_rfl) (fun _ _ _ h => h) (Or.inl ⟨by rfl, ?_⟩) hHeld ?_ ?_
                    rotate_left
                    · rintro w' ⟨s0, s1, s2⟩
                      go_simp
                      with_reducible rfl
                    rotate_left
                    · simp only [Act.put, List.setIfInBounds_toArray, List.set_cons_zero, List.set_cons_succ, i64_w, i32_w]
                      rfl
                    refine take_ (i := 12) (N := some 122) (v := ?_) (a' := ?_) #[true, true, true, true, false, false, true, true, true, false, false, true, true, false, false, false, false, true, true, false, false, false, false] rfl rfl (by kernel_rfl) (fun _ _ _ h => h) (Or.inl ⟨by rfl, ?_⟩) hHeld ?_ ?_
                    rotate_left
                    · rintro w' ⟨s0, s1, s2⟩
                      go_simp
                      with_reducible rfl
                    rotate_left
                    · simp only [Act.put, List.setIfInBounds_toArray, List.set_cons_zero, List.set_cons_succ, i64_w, i32_w]
                      rfl
                    refine take_ (i := 13) (N := some 123) (v := ?_) (a' := ?_) #[true, true, true, true, false, false, true, true, true, false, false, true, true, true, false, false, false, true, true, false, false, false, false] rfl rfl (by kernel_rfl) (fun _ _ _ h => h) (Or.inl ⟨by rfl, ?_⟩) hHeld ?_ ?_
                    rotate_left
                    · rintro w' ⟨s0, s1, s2⟩
                      go_simp
                      with_reducible rfl
                    rotate_left
                    · simp only [Act.put, List.setIfInBounds_toArray, List.set_cons_zero, List.set_cons_succ, i64_w, i32_w]
                      rfl
                    refine take_ (i := 14) (N := some 124) (v := ?_) (a' := ?_) #[true, true, true, true, false, false, true, true, true, false, false, true, true, true, true, false, false, true, true, false, false, false, false] rfl rfl (by kernel_rfl) (fun _ _ _ h => h) (Or.inl ⟨by rfl, ?_⟩) hHeld ?_ ?_
                    rotate_left
                    · rintro w' ⟨s0, s1, s2⟩
                      go_simp
                      with_reducible rfl
                    rotate_left
                    · simp only [Act.put, List.setIfInBounds_toArray, List.set_cons_zero, List.set_cons_succ, i64_w, i32_w]
                      rfl
                    refine join_ (σ := Nat × Value × Nat × Value × Nat) 5 #[true, true, true, true, true, true, true, true, true, true, true, true, true, true, true, true, false, true, true, false, false, false, false] (fun s => [(114, .slice (some ⟨s.1, 0, none⟩) 1 1), (115, s.2.1), (119, .slice (some ⟨s.2.2.1, 0, none⟩) 2 2), (120, s.2.2.2.1), (125, .slice (some ⟨s.2.2.2.2, 0, none⟩) 3 3)]) (fun s w' => Aside0 (Xs W0.heap.size X wr w') ∧ Aside0 ((W0.heap.size ≤ s.1 ∧ LX w' s.1 1 1 X)) ∧ Aside0 (SV W0.heap.size w' s.2.1 (toks.length + 1) X) ∧ Aside0 ((W0.heap.size ≤ s.2.2.1 ∧ LX w' s.2.2.1 2 2 X)) ∧ Aside0 (SV W0.heap.size w' s.2.2.2.1 (toks.length + 2) X) ∧ Aside0 ((W0.heap.size ≤ s.2.2.2.2 ∧ LX w' s.2.2.2.2 3 3 X))) ?_ ?_
                    rotate_left
                    · intro hJ4_5_9_10_15
                      refine join_ (σ := Nat × Value × Nat × Value) 6 #[true, true, true, true, true, true, true, true, true, true, true, true, true, true, true, false, false, true, true, false, false, false, false] (fun s => [(114, .slice (some ⟨s.1, 0, none⟩) 1 1), (115, s.2.1), (119, .slice (some ⟨s.2.2.1, 0, none⟩) 2 2), (120, s.2.2.2)]) (fun s w' => Aside0 (Xs W0.heap.size X wr w') ∧ Aside0 ((W0.heap.size ≤ s.1 ∧ LX w' s.1 1 1 X)) ∧ Aside0 (SV W0.heap.size w' s.2.1 (toks.length + 1) X) ∧ Aside0 ((W0.heap.size ≤ s.2.2.1 ∧ LX w' s.2.2.1 2 2 X)) ∧ Aside0 (SV W0.heap.size w' s.2.2.2 (toks.length + 2) X)) ?_ ?_
                      rotate_left
                      · intro hJ4_5_9_10
                        refine join_ (σ := Nat × Value × Nat × Nat) 6 #[true, true, true, true, true, true, true, true, true, true, false, true, true, true, true, true, false, true, true, false, false, false, false] (fun s => [(114, .slice (some ⟨s.1, 0, none⟩) 1 1), (115, s.2.1), (119, .slice (some ⟨s.2.2.1, 0, none⟩) 2 2), (125, .slice (some ⟨s.2.2.2, 0, none⟩) 3 3)]) (fun s w' => Aside0 (Xs W0.heap.size X wr w') ∧ Aside0 ((W0.heap.size ≤ s.1 ∧ LX w' s.1 1 1 X)) ∧ Aside0 (SV W0.heap.size w' s.2.1 (toks.length + 1) X) ∧ Aside0 ((W0.heap.size ≤ s.2.2.1 ∧ LX w' s.2.2.1 2 2 X)) ∧ Aside0 ((W0.heap.size ≤ s.2.2.2 ∧ LX w' s.2.2.2 3 3 X))) ?_ ?_
                        rotate_left
                        · intro hJ4_5_9_15
                          refine join_ (σ := Nat × Value × Nat) 7 #[true, true, true, true, true, true, true, true, true, true, false, true, true, true, true, false, false, true, true, false, false, false, false] (fun s => [(114, .slice (some ⟨s.1, 0, none⟩) 1 1), (115, s.2.1), (119, .slice (some ⟨s.2.2, 0, none⟩) 2 2)]) (fun s w' => Aside0 (Xs W0.heap.size X wr w') ∧ Aside0 ((W0.heap.size ≤ s.1 ∧ LX w' s.1 1 1 X)) ∧ Aside0 (SV W0.heap.size w' s.2.1 (toks.length + 1) X) ∧ Aside0 ((W0.heap.size ≤ s.2.2 ∧ LX w' s.2.2 2 2 X))) ?_ ?_
                          rotate_left
                          · intro hJ4_5_9
                            refine join_ (σ := Nat × Value × Nat) 7 #[true, true, true, true, true, true, true, true, true, false, false, true, true, true, true, true, false, true, true, false, false, false, false] (fun s => [(114, .slice (some ⟨s.1, 0, none⟩) 1 1), (115, s.2.1), (125, .slice (some ⟨s.2.2, 0, none⟩) 3 3)]) (fun s w' => Aside0 (Xs W0.heap.size X wr w') ∧ Aside0 ((W0.heap.size ≤ s.1 ∧ LX w' s.1 1 1 X)) ∧ Aside0 (SV W0.heap.size w' s.2.1 (toks.length + 1) X) ∧ Aside0 ((W0.heap.size ≤ s.2.2 ∧ LX w' s.2.2 3 3 X))) ?_ ?_
                            rotate_left
                            · intro hJ4_5_15
                              refine join_ (σ := Nat × Nat × Nat) 7 #[true, true, true, true, true, false, true, true, true, true, false, true, true, true, true, true, false, true, true, false, false, false, false] (fun s => [(114, .slice (some ⟨s.1, 0, none⟩) 1 1), (119, .slice (some ⟨s.2.1, 0, none⟩) 2 2), (125, .slice (some ⟨s.2.2, 0, none⟩) 3 3)]) (fun s w' => Aside0 (Xs W0.heap.size X wr w') ∧ Aside0 ((W0.heap.size ≤ s.1 ∧ LX w' s.1 1 1 X)) ∧ Aside0 ((W0.heap.size ≤ s.2.1 ∧ LX w' s.2.1 2 2 X)) ∧ Aside0 ((W0.heap.size ≤ s.2.2 ∧ LX w' s.2.2 3 3 X))) ?_ ?_
                              rotate_left
                              · intro hJ4_9_15
                                refine join_ (σ := Nat × Value) 8 #[true, true, true, true, true, true, true, true, true, false, false, true, true, true, true, false, false, true, true, false, false, false, false] (fun s => [(114, .slice (some ⟨s.1, 0, none⟩) 1 1), (115, s.2)]) (fun s w' => Aside0 (Xs W0.heap.size X wr w') ∧ Aside0 ((W0.heap.size ≤ s.1 ∧ LX w' s.1 1 1 X)) ∧ Aside0 (SV W0.heap.size w' s.2 (toks.length + 1) X)) ?_ ?_
                                rotate_left
                                · intro hJ4_5
                                  refine join_ (σ := Nat × Nat) 8 #[true, true, true, true, true, false, true, true, true, true, false, true, true, true, true, false, false, true, true, false, false, false, false] (fun s => [(114, .slice (some ⟨s.1, 0, none⟩) 1 1), (119, .slice (some ⟨s.2, 0, none⟩) 2 2)]) (fun s w' => Aside0 (Xs W0.heap.size X wr w') ∧ Aside0 ((W0.heap.size ≤ s.1 ∧ LX w' s.1 1 1 X)) ∧ Aside0 ((W0.heap.size ≤ s.2 ∧ LX w' s.2 2 2 X))) ?_ ?_
                                  rotate_left
                                  · intro hJ4_9
                                    refine join_ (σ := Nat × Nat) 8 #[true, true, true, true, true, false, true, true, true, false, false, true, true, true, true, true, false, true, true, false, false, false, false] (fun s => [(114, .slice (some ⟨s.1, 0, none⟩) 1 1), (125, .slice (some ⟨s.2, 0, none⟩) 3 3)]) (fun s w' => Aside0 (Xs W0.heap.size X wr w') ∧ Aside0 ((W0.heap.size ≤ s.1 ∧ LX w' s.1 1 1 X)) ∧ Aside0 ((W0.heap.size ≤ s.2 ∧ LX w' s.2 3 3 X))) ?_ ?_
                                    rotate_left
                                    · intro hJ4_15
                                      refine join_ (σ := Nat × Nat) 8 #[true, true, true, true, false, false, true, true, true, true, false, true, true, true, true, true, false, true, true, false, false, false, false] (fun s => [(119, .slice (some ⟨s.1, 0, none⟩) 2 2), (125, .slice (some ⟨s.2, 0, none⟩) 3 3)]) (fun s w' => Aside0 (Xs W0.heap.size X wr w') ∧ Aside0 ((W0.heap.size ≤ s.1 ∧ LX w' s.1 2 2 X)) ∧ Aside0 ((W0.heap.size ≤ s.2 ∧ LX w' s.2 3 3 X))) ?_ ?_
                                      rotate_left
                                      · intro hJ9_15
                                        refine join_ (σ := Nat) 9 #[true, true, true, true, true, false, true, true, true, false, false, true, true, true, true, false, false, true, true, false, false, false, false] (fun s => [(114, .slice (some ⟨s, 0, none⟩) 1 1)]) (fun s w' => Aside0 (Xs W0.heap.size X wr w') ∧ Aside0 ((W0.heap.size ≤ s ∧ LX w' s 1 1 X))) ?_ ?_
                                        rotate_left
                                        · intro hJ4
                                          refine join_ (σ := Nat) 9 #[true, true, true, true, false, false, true, true, true, true, false, true, true, true, true, false, false, true, true, false, false, false, false] (fun s => [(119, .slice (some ⟨s, 0, none⟩) 2 2)]) (fun s w' => Aside0 (Xs W0.heap.size X wr w') ∧ Aside0 ((W0.heap.size ≤ s ∧ LX w' s 2 2 X))) ?_ ?_
                                          rotate_left
                                          · intro hJ9
                                            refine join_ (σ := Nat) 9 #[true, true, true, true, false, false, true, true, true, false, false, true, true, true, true, true, false, true, true, false, false, false, false] (fun s => [(125, .slice (some ⟨s, 0, none⟩) 3 3)]) (fun s w' => Aside0 (Xs W0.heap.size X wr w') ∧ Aside0 ((W0.heap.size ≤ s ∧ LX w' s 3 3 X))) ?_ ?_
                                            rotate_left
                                            · intro hJ15
                                              refine three_ (i := 4) (j := 9) (k := 15) (Ni := some 114) (Nj := some 119) (Nk := some 125) #[true, true, true, true, true, false, true, true, true, false, false, true, true, true, true, false, false, true, true, false, false, false, false] #[true, true, true, true, false, false, true, true, true, true, false, true, true, true, true, false, false, true, true, false, false, false, false] #[true, true, true, true, false, false, true, true, true, false, false, true, true, true, true, true, false, true, true, false, false, false, false] rfl rfl rfl rfl rfl rfl (by kernel_rfl) (by decide) (by decide) (by decide) (fun K hK => ?_) (fun K hK => ?_) (fun K hK => ?_)
                                              · skip
                                                refine value_ (w1 := ?_) (v := ?_) (by rfl) rfl ?_ ?_
                                                rotate_left 2
                                                · go_simp
                                                  constructor
                                                  · rfl
                                                  · rfl
                                                have hSt := Xs.alloc (H := W0.heap.size) (x := X) (w := wr.drew) (.cells #[.int .i64 X.f0, .int .i64 X.f1, .string X.f2] 31) (Nat.le_trans HB6.out.size HX0.out.size)
                                                have mX := Aside0.mk (HX0.out.trans hSt)
                                                have mF4 := Aside0.mk (⟨Nat.le_trans HB6.out.size HX0.out.size, LX.new _ X⟩ : W0.heap.size ≤ wr.drew.heap.size ∧ LX _ wr.drew.heap.size 1 1 X)
                                                refine hK.out _ _ ⟨(HBX.out.xs HBXg.out mX.out).cell 0 (by decide), (HBX.out.xs HBXg.out mX.out).cell 1 (by decide), (HBX.out.xs HBXg.out mX.out).cell 2 (by decide)⟩ (fun hHeld => ?_)
                                                clear hK K
                                                refine norm_ (a' := ?_) ?_ ?_
                                                rotate_left
                                                · show Act.put _ (some 114) _ = _
                                                  simp only [Act.put, List.setIfInBounds_toArray, List.set_cons_zero, List.set_cons_succ, i64_w, i32_w]
                                                  rfl
                                                exact norm_ (by first | (simp only [putAll, Act.put, List.setIfInBounds_toArray, List.set_cons_zero, List.set_cons_succ]; done) | (simp only [putAll, Act.put, List.setIfInBounds_toArray, List.set_cons_zero, List.set_cons_succ]; rfl)) (hJ4 (wr.drew.heap.size) _ ⟨mX, mF4⟩)
                                              · skip
                                                refine value_ (w1 := ?_) (v := ?_) (by rfl) rfl ?_ ?_
                                                rotate_left 2
                                                · go_simp
                                                  constructor
                                                  · rfl
                                                  · rfl
                                                have hSt := Xs.alloc (H := W0.heap.size) (x := X) (w := wr.drew) (.cells #[.int .i64 X.f0, .int .i64 X.f1, .string X.f2, .int .i64 X.f0, .int .i64 X.f1, .string X.f2] 31) (Nat.le_trans HB6.out.size HX0.out.size)
                                                have mX := Aside0.mk (HX0.out.trans hSt)
                                                have mF9 := Aside0.mk (⟨Nat.le_trans HB6.out.size HX0.out.size, LX.new2 _ X⟩ : W0.heap.size ≤ wr.drew.heap.size ∧ LX _ wr.drew.heap.size 2 2 X)
                                                refine hK.out _ _ ⟨(HBX.out.xs HBXg.out mX.out).cell 0 (by decide), (HBX.out.xs HBXg.out mX.out).cell 1 (by decide), (HBX.out.xs HBXg.out mX.out).cell 2 (by decide)⟩ (fun hHeld => ?_)
                                                clear hK K
                                                refine norm_ (a' := ?_) ?_ ?_
                                                rotate_left
                                                · show Act.put _ (some 119) _ = _
                                                  simp only [Act.put, List.setIfInBounds_toArray, List.set_cons_zero, List.set_cons_succ, i64_w, i32_w]
                                                  rfl
                                                exact norm_ (by first | (simp only [putAll, Act.put, List.setIfInBounds_toArray, List.set_cons_zero, List.set_cons_succ]; done) | (simp only [putAll, Act.put, List.setIfInBounds_toArray, List.set_cons_zero, List.set_cons_succ]; rfl)) (hJ9 (wr.drew.heap.size) _ ⟨mX, mF9⟩)
                                              · skip
                                                refine value_ (w1 := ?_) (v := ?_) (by rfl) rfl ?_ ?_
                                                rotate_left 2
                                                · go_simp
                                                  constructor
                                                  · rfl
                                                  · rfl
                                                have hSt := Xs.alloc (H := W0.heap.size) (x := X) (w := wr.drew) (.cells #[.int .i64 X.f0, .int .i64 X.f1, .string X.f2, .int .i64 X.f0, .int .i64 X.f1, .string X.f2, .int .i64 X.f0, .int .i64 X.f1, .string X.f2] 31) (Nat.le_trans HB6.out.size HX0.out.size)
                                                have mX := Aside0.mk (HX0.out.trans hSt)
                                                have mF15 := Aside0.mk (⟨Nat.le_trans HB6.out.size HX0.out.size, LX.new3 _ X⟩ : W0.heap.size ≤ wr.drew.heap.size ∧ LX _ wr.drew.heap.size 3 3 X)
                                                refine hK.out _ _ ⟨(HBX.out.xs HBXg.out mX.out).cell 0 (by decide), (HBX.out.xs HBXg.out mX.out).cell 1 (by decide), (HBX.out.xs HBXg.out mX.out).cell 2 (by decide)⟩ (fun hHeld => ?_)
                                                clear hK K
                                                refine norm_ (a' := ?_) ?_ ?_
                                                rotate_left
                                                · show Act.put _ (some 125) _ = _
                                                  simp only [Act.put, List.setIfInBounds_toArray, List.set_cons_zero, List.set_cons_succ, i64_w, i32_w]
                                                  rfl
                                                exact norm_ (by first | (simp only [putAll, Act.put, List.setIfInBounds_toArray, List.set_cons_zero, List.set_cons_succ]; done) | (simp only [putAll, Act.put, List.setIfInBounds_toArray, List.set_cons_zero, List.set_cons_succ]; rfl)) (hJ15 (wr.drew.heap.size) _ ⟨mX, mF15⟩)
                                            · skip
                                              rintro g15 wz ⟨HXz, HF15⟩
                                              have hHeld := (⟨(HBX.out.xs HBXg.out HXz.out).cell 0 (by decide), (HBX.out.xs HBXg.out HXz.out).cell 1 (by decide), (HBX.out.xs HBXg.out HXz.out).cell 2 (by decide)⟩ : wz.cell? ⟨bx, 0, none⟩ = some (.int .i64 X.f0) ∧ wz.cell? ⟨bx, 1, none⟩ = some (.int .i64 X.f1) ∧ wz.cell? ⟨bx, 2, none⟩ = some (.string X.f2))
                                              refine norm_ (a' := ?_) ?_ ?_
                                              rotate_left
                                              · simp only [putAll, Act.put, List.setIfInBounds_toArray, List.set_cons_zero, List.set_cons_succ]
                                                rfl
                                              refine two_ (i := 4) (j := 9) (Ni := some 114) (Nj := some 119) #[true, true, true, true, true, false, true, true, true, false, false, true, true, true, true, true, false, true, true, false, false, false, false] #[true, true, true, true, false, false, true, true, true, true, false, true, true, true, true, true, false, true, true, false, false, false, false] rfl rfl rfl rfl (by kernel_rfl) (by decide) (by decide) (fun K hK => ?_) (fun K hK => ?_)
                                              · skip
                                                refine value_ (w1 := ?_) (v := ?_) (by rfl) rfl ?_ ?_
                                                rotate_left 2
                                                · go_simp
                                                  constructor
                                                  · rfl
                                                  · rfl
                                                have hSt := Xs.alloc (H := W0.heap.size) (x := X) (w := wz) (.cells #[.int .i64 X.f0, .int .i64 X.f1, .string X.f2] 31) (Nat.le_trans HB6.out.size HXz.out.size)
                                                have mX := Aside0.mk (HXz.out.trans hSt)
                                                have mF4 := Aside0.mk (⟨Nat.le_trans HB6.out.size HXz.out.size, LX.new _ X⟩ : W0.heap.size ≤ wz.heap.size ∧ LX _ wz.heap.size 1 1 X)
                                                have mF15 := Aside0.mk ((⟨HF15.out.1, HF15.out.2.xs HF15.out.1 hSt⟩ : _ ∧ _))
                                                refine hK.out _ _ ⟨(HBX.out.xs HBXg.out mX.out).cell 0 (by decide), (HBX.out.xs HBXg.out mX.out).cell 1 (by decide), (HBX.out.xs HBXg.out mX.out).cell 2 (by decide)⟩ (fun hHeld => ?_)
                                                clear hK K
                                                refine norm_ (a' := ?_) ?_ ?_
                                                rotate_left
                                                · show Act.put _ (some 114) _ = _
                                                  simp only [Act.put, List.setIfInBounds_toArray, List.set_cons_zero, List.set_cons_succ, i64_w, i32_w]
                                                  rfl
                                                exact norm_ (by first | (simp only [putAll, Act.put, List.setIfInBounds_toArray, List.set_cons_zero, List.set_cons_succ]; done) | (simp only [putAll, Act.put, List.setIfInBounds_toArray, List.set_cons_zero, List.set_cons_succ]; rfl)) (hJ4_15 ⟨wz.heap.size, g15⟩ _ ⟨mX, mF4, mF15⟩)
                                              · skip
                                                refine value_ (w1 := ?_) (v := ?_) (by rfl) rfl ?_ ?_
                                                rotate_left 2
                                                · go_simp
                                                  constructor
                                                  · rfl
                                                  · rfl
                                                have hSt := Xs.alloc (H := W0.heap.size) (x := X) (w := wz) (.cells #[.int .i64 X.f0, .int .i64 X.f1, .string X.f2, .int .i64 X.f0, .int .i64 X.f1, .string X.f2] 31) (Nat.le_trans HB6.out.size HXz.out.size)
                                                have mX := Aside0.mk (HXz.out.trans hSt)
                                                have mF9 := Aside0.mk (⟨Nat.le_trans HB6.out.size HXz.out.size, LX.new2 _ X⟩ : W0.heap.size ≤ wz.heap.size ∧ LX _ wz.heap.size 2 2 X)
                                                have mF15 := Aside0.mk ((⟨HF15.out.1, HF15.out.2.xs HF15.out.1 hSt⟩ : _ ∧ _))
                                                refine hK.out _ _ ⟨(HBX.out.xs HBXg.out mX.out).cell 0 (by decide), (HBX.out.xs HBXg.out mX.out).cell 1 (by decide), (HBX.out.xs HBXg.out mX.out).cell 2 (by decide)⟩ (fun hHeld => ?_)
                                                clear hK K
                                                refine norm_ (a' := ?_) ?_ ?_
                                                rotate_left
                                                · show Act.put _ (some 119) _ = _
                                                  simp only [Act.put, List.setIfInBounds_toArray, List.set_cons_zero, List.set_cons_succ, i64_w, i32_w]
                                                  rfl
                                                exact norm_ (by first | (simp only [putAll, Act.put, List.setIfInBounds_toArray, List.set_cons_zero, List.set_cons_succ]; done) | (simp only [putAll, Act.put, List.setIfInBounds_toArray, List.set_cons_zero, List.set_cons_succ]; rfl)) (hJ9_15 ⟨wz.heap.size, g15⟩ _ ⟨mX, mF9, mF15⟩)
                                          · skip
                                            rintro g9 wz ⟨HXz, HF9⟩
                                            have hHeld := (⟨(HBX.out.xs HBXg.out HXz.out).cell 0 (by decide), (HBX.out.xs HBXg.out HXz.out).cell 1 (by decide), (HBX.out.xs HBXg.out HXz.out).cell 2 (by decide)⟩ : wz.cell? ⟨bx, 0, none⟩ = some (.int .i64 X.f0) ∧ wz.cell? ⟨bx, 1, none⟩ = some (.int .i64 X.f1) ∧ wz.cell? ⟨bx, 2, none⟩ = some (.string X.f2))
                                            refine norm_ (a' := ?_) ?_ ?_
                                            rotate_left
                                            · simp only [putAll, Act.put, List.setIfInBounds_toArray, List.set_cons_zero, List.set_cons_succ]
                                              rfl
                                            refine two_ (i := 4) (j := 15) (Ni := some 114) (Nj := some 125) #[true, true, true, true, true, false, true, true, true, true, false, true, true, true, true, false, false, true, true, false, false, false, false] #[true, true, true, true, false, false, true, true, true, true, false, true, true, true, true, true, false, true, true, false, false, false, false] rfl rfl rfl rfl (by kernel_rfl) (by decide) (by decide) (fun K hK => ?_) (fun K hK => ?_)
                                            · skip
                                              refine value_ (w1 := ?_) (v := ?_) (by rfl) rfl ?_ ?_
                                              rotate_left 2
                                              · go_simp
                                                constructor
                                                · rfl
                                                · rfl
                                              have hSt := Xs.alloc (H := W0.heap.size) (x := X) (w := wz) (.cells #[.int .i64 X.f0, .int .i64 X.f1, .string X.f2] 31) (Nat.le_trans HB6.out.size HXz.out.size)
                                              have mX := Aside0.mk (HXz.out.trans hSt)
                                              have mF4 := Aside0.mk (⟨Nat.le_trans HB6.out.size HXz.out.size, LX.new _ X⟩ : W0.heap.size ≤ wz.heap.size ∧ LX _ wz.heap.size 1 1 X)
                                              have mF9 := Aside0.mk ((⟨HF9.out.1, HF9.out.2.xs HF9.out.1 hSt⟩ : _ ∧ _))
                                              refine hK.out _ _ ⟨(HBX.out.xs HBXg.out mX.out).cell 0 (by decide), (HBX.out.xs HBXg.out mX.out).cell 1 (by decide), (HBX.out.xs HBXg.out mX.out).cell 2 (by decide)⟩ (fun hHeld => ?_)
                                              clear hK K
                                              refine norm_ (a' := ?_) ?_ ?_
                                              rotate_left
                                              · show Act.put _ (some 114) _ = _
                                                simp only [Act.put, List.setIfInBounds_toArray, List.set_cons_zero, List.set_cons_succ, i64_w, i32_w]
                                                rfl
                                              exact norm_ (by first | (simp only [putAll, Act.put, List.setIfInBounds_toArray, List.set_cons_zero, List.set_cons_succ]; done) | (simp only [putAll, Act.put, List.setIfInBounds_toArray, List.set_cons_zero, List.set_cons_succ]; rfl)) (hJ4_9 ⟨wz.heap.size, g9⟩ _ ⟨mX, mF4, mF9⟩)
                                            · skip
                                              refine value_ (w1 := ?_) (v := ?_) (by rfl) rfl ?_ ?_
                                              rotate_left 2
                                              · go_simp
                                                constructor
                                                · rfl
                                                · rfl
                                              have hSt := Xs.alloc (H := W0.heap.size) (x := X) (w := wz) (.cells #[.int .i64 X.f0, .int .i64 X.f1, .string X.f2, .int .i64 X.f0, .int .i64 X.f1, .string X.f2, .int .i64 X.f0, .int .i64 X.f1, .string X.f2] 31) (Nat.le_trans HB6.out.size HXz.out.size)
                                              have mX := Aside0.mk (HXz.out.trans hSt)
                                              have mF15 := Aside0.mk (⟨Nat.le_trans HB6.out.size HXz.out.size, LX.new3 _ X⟩ : W0.heap.size ≤ wz.heap.size ∧ LX _ wz.heap.size 3 3 X)
                                              have mF9 := Aside0.mk ((⟨HF9.out.1, HF9.out.2.xs HF9.out.1 hSt⟩ : _ ∧ _))
                                              refine hK.out _ _ ⟨(HBX.out.xs HBXg.out mX.out).cell 0 (by decide), (HBX.out.xs HBXg.out mX.out).cell 1 (by decide), (HBX.out.xs HBXg.out mX.out).cell 2 (by decide)⟩ (fun hHeld => ?_)
                                              clear hK K
                                              refine norm_ (a' := ?_) ?_ ?_
                                              rotate_left
                                              · show Act.put _ (some 125) _ = _
                                                simp only [Act.put, List.setIfInBounds_toArray, List.set_cons_zero, List.set_cons_succ, i64_w, i32_w]
                                                rfl
                                              exact norm_ (by first | (simp only [putAll, Act.put, List.setIfInBounds_toArray, List.set_cons_zero, List.set_cons_succ]; done) | (simp only [putAll, Act.put, List.setIfInBounds_toArray, List.set_cons_zero, List.set_cons_succ]; rfl)) (hJ9_15 ⟨g9, wz.heap.size⟩ _ ⟨mX, mF9, mF15⟩)
                                        · skip
                                          rintro g4 wz ⟨HXz, HF4⟩
                                          have hHeld := (⟨(HBX.out.xs HBXg.out HXz.out).cell 0 (by decide), (HBX.out.xs HBXg.out HXz.out).cell 1 (by decide), (HBX.out.xs HBXg.out HXz.out).cell 2 (by decide)⟩ : wz.cell? ⟨bx, 0, none⟩ = some (.int .i64 X.f0) ∧ wz.cell? ⟨bx, 1, none⟩ = some (.int .i64 X.f1) ∧ wz.cell? ⟨bx, 2, none⟩ = some (.string X.f2))
                                          refine norm_ (a' := ?_) ?_ ?_
                                          rotate_left
                                          · simp only [putAll, Act.put, List.setIfInBounds_toArray, List.set_cons_zero, List.set_cons_succ]
                                            rfl
                                          refine three_ (i := 5) (j := 9) (k := 15) (Ni := some 115) (Nj := some 119) (Nk := some 125) #[true, true, true, true, true, true, true, true, true, false, false, true, true, true, true, false, false, true, true, false, false, false, false] #[true, true, true, true, true, false, true, true, true, true, false, true, true, true, true, false, false, true, true, false, false, false, false] #[true, true, true, true, true, false, true, true, true, false, false, true, true, true, true, true, false, true, true, false, false, false, false] rfl rfl rfl rfl rfl rfl (by kernel_rfl) (by decide) (by decide) (by decide) (fun K hK => ?_) (fun K hK => ?_) (fun K hK => ?_)
                                          · skip
                                            refine step_app_x (H := W0.heap.size) (x := X) (n := toks.length) (m := 1) rfl (.tmp 112) (.tmp 114) rfl (by rfl) (by rfl) (Nat.le_trans HB6.out.size HXz.out.size) (HSL.out.xs HXz.out) (by decide) (lx_news HF4.out.2) (by have := HN.out; omega) ?_
                                            intro v5 w3 hV hSt
                                            have mX := Aside0.mk (HXz.out.trans hSt)
                                            have mF5 := Aside0.mk hV
                                            have mF4 := Aside0.mk ((⟨HF4.out.1, HF4.out.2.xs HF4.out.1 hSt⟩ : _ ∧ _))
                                            refine hK.out _ _ ⟨(HBX.out.xs HBXg.out mX.out).cell 0 (by decide), (HBX.out.xs HBXg.out mX.out).cell 1 (by decide), (HBX.out.xs HBXg.out mX.out).cell 2 (by decide)⟩ (fun hHeld => ?_)
                                            clear hK K
                                            refine norm_ (a' := ?_) ?_ ?_
                                            rotate_left
                                            · show Act.put _ (some 115) _ = _
                                              simp only [Act.put, List.setIfInBounds_toArray, List.set_cons_zero, List.set_cons_succ, i64_w, i32_w]
                                              rfl
                                            exact norm_ (by first | (simp only [putAll, Act.put, List.setIfInBounds_toArray, List.set_cons_zero, List.set_cons_succ]; done) | (simp only [putAll, Act.put, List.setIfInBounds_toArray, List.set_cons_zero, List.set_cons_succ]; rfl)) (hJ4_5 ⟨g4, v5⟩ _ ⟨mX, mF4, mF5⟩)
                                          · skip
                                            refine value_ (w1 := ?_) (v := ?_) (by rfl) rfl ?_ ?_
                                            rotate_left 2
                                            · go_simp
                                              constructor
                                              · rfl
                                              · rfl
                                            have hSt := Xs.alloc (H := W0.heap.size) (x := X) (w := wz) (.cells #[.int .i64 X.f0, .int .i64 X.f1, .string X.f2, .int .i64 X.f0, .int .i64 X.f1, .string X.f2] 31) (Nat.le_trans HB6.out.size HXz.out.size)
                                            have mX := Aside0.mk (HXz.out.trans hSt)
                                            have mF9 := Aside0.mk (⟨Nat.le_trans HB6.out.size HXz.out.size, LX.new2 _ X⟩ : W0.heap.size ≤ wz.heap.size ∧ LX _ wz.heap.size 2 2 X)
                                            have mF4 := Aside0.mk ((⟨HF4.out.1, HF4.out.2.xs HF4.out.1 hSt⟩ : _ ∧ _))
                                            refine hK.out _ _ ⟨(HBX.out.xs HBXg.out mX.out).cell 0 (by decide), (HBX.out.xs HBXg.out mX.out).cell 1 (by decide), (HBX.out.xs HBXg.out mX.out).cell 2 (by decide)⟩ (fun hHeld => ?_)
                                            clear hK K
                                            refine norm_ (a' := ?_) ?_ ?_
                                            rotate_left
                                            · show Act.put _ (some 119) _ = _
                                              simp only [Act.put, List.setIfInBounds_toArray, List.set_cons_zero, List.set_cons_succ, i64_w, i32_w]
                                              rfl
                                            exact norm_ (by first | (simp only [putAll, Act.put, List.setIfInBounds_toArray, List.set_cons_zero, List.set_cons_succ]; done) | (simp only [putAll, Act.put, List.setIfInBounds_toArray, List.set_cons_zero, List.set_cons_succ]; rfl)) (hJ4_9 ⟨g4, wz.heap.size⟩ _ ⟨mX, mF4, mF9⟩)
                                          · skip
                                            refine value_ (w1 := ?_) (v := ?_) (by rfl) rfl ?_ ?_
                                            rotate_left 2
                                            · go_simp
                                              constructor
                                              · rfl
                                              · rfl
                                            have hSt := Xs.alloc (H := W0.heap.size) (x := X) (w := wz) (.cells #[.int .i64 X.f0, .int .i64 X.f1, .string X.f2, .int .i64 X.f0, .int .i64 X.f1, .string X.f2, .int .i64 X.f0, .int .i64 X.f1, .string X.f2] 31) (Nat.le_trans HB6.out.size HXz.out.size)
                                            have mX := Aside0.mk (HXz.out.trans hSt)
                                            have mF15 := Aside0.mk (⟨Nat.le_trans HB6.out.size HXz.out.size, LX.new3 _ X⟩ : W0.heap.size ≤ wz.heap.size ∧ LX _ wz.heap.size 3 3 X)
                                            have mF4 := Aside0.mk ((⟨HF4.out.1, HF4.out.2.xs HF4.out.1 hSt⟩ : _ ∧ _))
                                            refine hK.out _ _ ⟨(HBX.out.xs HBXg.out mX.out).cell 0 (by decide), (HBX.out.xs HBXg.out mX.out).cell 1 (by decide), (HBX.out.xs HBXg.out mX.out).cell 2 (by decide)⟩ (fun hHeld => ?_)
                                            clear hK K
                                            refine norm_ (a' := ?_) ?_ ?_
                                            rotate_left
                                            · show Act.put _ (some 125) _ = _
                                              simp only [Act.put, List.setIfInBounds_toArray, List.set_cons_zero, List.set_cons_succ, i64_w, i32_w]
                                              rfl
                                            exact norm_ (by first | (simp only [putAll, Act.put, List.setIfInBounds_toArray, List.set_cons_zero, List.set_cons_succ]; done) | (simp only [putAll, Act.put, List.setIfInBounds_toArray, List.set_cons_zero, List.set_cons_succ]; rfl)) (hJ4_15 ⟨g4, wz.heap.size⟩ _ ⟨mX, mF4, mF15⟩)
                                      · skip
                                        rintro ⟨g9, g15⟩ wz ⟨HXz, HF9, HF15⟩
                                        have hHeld := (⟨(HBX.out.xs HBXg.out HXz.out).cell 0 (by decide), (HBX.out.xs HBXg.out HXz.out).cell 1 (by decide), (HBX.out.xs HBXg.out HXz.out).cell 2 (by decide)⟩ : wz.cell? ⟨bx, 0, none⟩ = some (.int .i64 X.f0) ∧ wz.cell? ⟨bx, 1, none⟩ = some (.int .i64 X.f1) ∧ wz.cell? ⟨bx, 2, none⟩ = some (.string X.f2))
                                        refine norm_ (a' := ?_) ?_ ?_
                                        rotate_left
                                        · simp only [putAll, Act.put, List.setIfInBounds_toArray, List.set_cons_zero, List.set_cons_succ]
                                          rfl
                                        refine one_ (i := 4) (N := some 114) #[true, true, true, true, true, false, true, true, true, true, false, true, true, true, true, true, false, true, true, false, false, false, false] rfl rfl (by kernel_rfl) (by decide) (fun K hK => ?_)
                                        refine value_ (w1 := ?_) (v := ?_) (by rfl) rfl ?_ ?_
                                        rotate_left 2
                                        · go_simp
                                          constructor
                                          · rfl
                                          · rfl
                                        have hSt := Xs.alloc (H := W0.heap.size) (x := X) (w := wz) (.cells #[.int .i64 X.f0, .int .i64 X.f1, .string X.f2] 31) (Nat.le_trans HB6.out.size HXz.out.size)
                                        have mX := Aside0.mk (HXz.out.trans hSt)
                                        have mF4 := Aside0.mk (⟨Nat.le_trans HB6.out.size HXz.out.size, LX.new _ X⟩ : W0.heap.size ≤ wz.heap.size ∧ LX _ wz.heap.size 1 1 X)
                                        have mF9 := Aside0.mk ((⟨HF9.out.1, HF9.out.2.xs HF9.out.1 hSt⟩ : _ ∧ _))
                                        have mF15 := Aside0.mk ((⟨HF15.out.1, HF15.out.2.xs HF15.out.1 hSt⟩ : _ ∧ _))
                                        refine hK.out _ _ ⟨(HBX.out.xs HBXg.out mX.out).cell 0 (by decide), (HBX.out.xs HBXg.out mX.out).cell 1 (by decide), (HBX.out.xs HBXg.out mX.out).cell 2 (by decide)⟩ (fun hHeld => ?_)
                                        clear hK K
                                        refine norm_ (a' := ?_) ?_ ?_
                                        rotate_left
                                        · show Act.put _ (some 114) _ = _
                                          simp only [Act.put, List.setIfInBounds_toArray, List.set_cons_zero, List.set_cons_succ, i64_w, i32_w]
                                          rfl
                                        exact norm_ (by first | (simp only [putAll, Act.put, List.setIfInBounds_toArray, List.set_cons_zero, List.set_cons_succ]; done) | (simp only [putAll, Act.put, List.setIfInBounds_toArray, List.set_cons_zero, List.set_cons_succ]; rfl)) (hJ4_9_15 ⟨wz.heap.size, g9, g15⟩ _ ⟨mX, mF4, mF9, mF15⟩)
                                    · skip
                                      rintro ⟨g4, g15⟩ wz ⟨HXz, HF4, HF15⟩
                                      have hHeld := (⟨(HBX.out.xs HBXg.out HXz.out).cell 0 (by decide), (HBX.out.xs HBXg.out HXz.out).cell 1 (by decide), (HBX.out.xs HBXg.out HXz.out).cell 2 (by decide)⟩ : wz.cell? ⟨bx, 0, none⟩ = some (.int .i64 X.f0) ∧ wz.cell? ⟨bx, 1, none⟩ = some (.int .i64 X.f1) ∧ wz.cell? ⟨bx, 2, none⟩ = some (.string X.f2))
                                      refine norm_ (a' := ?_) ?_ ?_
                                      rotate_left
                                      · simp only [putAll, Act.put, List.setIfInBounds_toArray, List.set_cons_zero, List.set_cons_succ]
                                        rfl
                                      refine two_ (i := 5) (j := 9) (Ni := some 115) (Nj := some 119) #[true, true, true, true, true, true, true, true, true, false, false, true, true, true, true, true, false, true, true, false, false, false, false] #[true, true, true, true, true, false, true, true, true, true, false, true, true, true, true, true, false, true, true, false, false, false, false] rfl rfl rfl rfl (by kernel_rfl) (by decide) (by decide) (fun K hK => ?_) (fun K hK => ?_)
                                      · skip
                                        refine step_app_x (H := W0.heap.size) (x := X) (n := toks.length) (m := 1) rfl (.tmp 112) (.tmp 114) rfl (by rfl) (by rfl) (Nat.le_trans HB6.out.size HXz.out.size) (HSL.out.xs HXz.out) (by decide) (lx_news HF4.out.2) (by have := HN.out; omega) ?_
                                        intro v5 w3 hV hSt
                                        have mX := Aside0.mk (HXz.out.trans hSt)
                                        have mF5 := Aside0.mk hV
                                        have mF4 := Aside0.mk ((⟨HF4.out.1, HF4.out.2.xs HF4.out.1 hSt⟩ : _ ∧ _))
                                        have mF15 := Aside0.mk ((⟨HF15.out.1, HF15.out.2.xs HF15.out.1 hSt⟩ : _ ∧ _))
                                        refine hK.out _ _ ⟨(HBX.out.xs HBXg.out mX.out).cell 0 (by decide), (HBX.out.xs HBXg.out mX.out).cell 1 (by decide), (HBX.out.xs HBXg.out mX.out).cell 2 (by decide)⟩ (fun hHeld => ?_)
                                        clear hK K
                                        refine norm_ (a' := ?_) ?_ ?_
                                        rotate_left
                                        · show Act.put _ (some 115) _ = _
                                          simp only [Act.put, List.setIfInBounds_toArray, List.set_cons_zero, List.set_cons_succ, i64_w, i32_w]
                                          rfl
                                        exact norm_ (by first | (simp only [putAll, Act.put, List.setIfInBounds_toArray, List.set_cons_zero, List.set_cons_succ]; done) | (simp only [putAll, Act.put, List.setIfInBounds_toArray, List.set_cons_zero, List.set_cons_succ]; rfl)) (hJ4_5_15 ⟨g4, v5, g15⟩ _ ⟨mX, mF4, mF5, mF15⟩)
                                      · skip
                                        refine value_ (w1 := ?_) (v := ?_) (by rfl) rfl ?_ ?_
                                        rotate_left 2
                                        · go_simp
                                          constructor
                                          · rfl
                                          · rfl
                                        have hSt := Xs.alloc (H := W0.heap.size) (x := X) (w := wz) (.cells #[.int .i64 X.f0, .int .i64 X.f1, .string X.f2, .int .i64 X.f0, .int .i64 X.f1, .string X.f2] 31) (Nat.le_trans HB6.out.size HXz.out.size)
                                        have mX := Aside0.mk (HXz.out.trans hSt)
                                        have mF9 := Aside0.mk (⟨Nat.le_trans HB6.out.size HXz.out.size, LX.new2 _ X⟩ : W0.heap.size ≤ wz.heap.size ∧ LX _ wz.heap.size 2 2 X)
                                        have mF4 := Aside0.mk ((⟨HF4.out.1, HF4.out.2.xs HF4.out.1 hSt⟩ : _ ∧ _))
                                        have mF15 := Aside0.mk ((⟨HF15.out.1, HF15.out.2.xs HF15.out.1 hSt⟩ : _ ∧ _))
                                        refine hK.out _ _ ⟨(HBX.out.xs HBXg.out mX.out).cell 0 (by decide), (HBX.out.xs HBXg.out mX.out).cell 1 (by decide), (HBX.out.xs HBXg.out mX.out).cell 2 (by decide)⟩ (fun hHeld => ?_)
                                        clear hK K
                                        refine norm_ (a' := ?_) ?_ ?_
                                        rotate_left
                                        · show Act.put _ (some 119) _ = _
                                          simp only [Act.put, List.setIfInBounds_toArray, List.set_cons_zero, List.set_cons_succ, i64_w, i32_w]
                                          rfl
                                        exact norm_ (by first | (simp only [putAll, Act.put, List.setIfInBounds_toArray, List.set_cons_zero, List.set_cons_succ]; done) | (simp only [putAll, Act.put, List.setIfInBounds_toArray, List.set_cons_zero, List.set_cons_succ]; rfl)) (hJ4_9_15 ⟨g4, wz.heap.size, g15⟩ _ ⟨mX, mF4, mF9, mF15⟩)
                                  · skip
                                    rintro ⟨g4, g9⟩ wz ⟨HXz, HF4, HF9⟩
                                    have hHeld := (⟨(HBX.out.xs HBXg.out HXz.out).cell 0 (by decide), (HBX.out.xs HBXg.out HXz.out).cell 1 (by decide), (HBX.out.xs HBXg.out HXz.out).cell 2 (by decide)⟩ : wz.cell? ⟨bx, 0, none⟩ = some (.int .i64 X.f0) ∧ wz.cell? ⟨bx, 1, none⟩ = some (.int .i64 X.f1) ∧ wz.cell? ⟨bx, 2, none⟩ = some (.string X.f2))
                                    refine norm_ (a' := ?_) ?_ ?_
                                    rotate_left
                                    · simp only [putAll, Act.put, List.setIfInBounds_toArray, List.set_cons_zero, List.set_cons_succ]
                                      rfl
                                    refine two_ (i := 5) (j := 15) (Ni := some 115) (Nj := some 125) #[true, true, true, true, true, true, true, true, true, true, false, true, true, true, true, false, false, true, true, false, false, false, false] #[true, true, true, true, true, false, true, true, true, true, false, true, true, true, true, true, false, true, true, false, false, false, false] rfl rfl rfl rfl (by kernel_rfl) (by decide) (by decide) (fun K hK => ?_) (fun K hK => ?_)
                                    · skip
                                      refine step_app_x (H := W0.heap.size) (x := X) (n := toks.length) (m := 1) rfl (.tmp 112) (.tmp 114) rfl (by rfl) (by rfl) (Nat.le_trans HB6.out.size HXz.out.size) (HSL.out.xs HXz.out) (by decide) (lx_news HF4.out.2) (by have := HN.out; omega) ?_
                                      intro v5 w3 hV hSt
                                      have mX := Aside0.mk (HXz.out.trans hSt)
                                      have mF5 := Aside0.mk hV
                                      have mF4 := Aside0.mk ((⟨HF4.out.1, HF4.out.2.xs HF4.out.1 hSt⟩ : _ ∧ _))
                                      have mF9 := Aside0.mk ((⟨HF9.out.1, HF9.out.2.xs HF9.out.1 hSt⟩ : _ ∧ _))
                                      refine hK.out _ _ ⟨(HBX.out.xs HBXg.out mX.out).cell 0 (by decide), (HBX.out.xs HBXg.out mX.out).cell 1 (by decide), (HBX.out.xs HBXg.out mX.out).cell 2 (by decide)⟩ (fun hHeld => ?_)
                                      clear hK K
                                      refine norm_ (a' := ?_) ?_ ?_
                                      rotate_left
                                      · show Act.put _ (some 115) _ = _
                                        simp only [Act.put, List.setIfInBounds_toArray, List.set_cons_zero, List.set_cons_succ, i64_w, i32_w]
                                        rfl
                                      exact norm_ (by first | (simp only [putAll, Act.put, List.setIfInBounds_toArray, List.set_cons_zero, List.set_cons_succ]; done) | (simp only [putAll, Act.put, List.setIfInBounds_toArray, List.set_cons_zero, List.set_cons_succ]; rfl)) (hJ4_5_9 ⟨g4, v5, g9⟩ _ ⟨mX, mF4, mF5, mF9⟩)
                                    · skip
                                      refine value_ (w1 := ?_) (v := ?_) (by rfl) rfl ?_ ?_
                                      rotate_left 2
                                      · go_simp
                                        constructor
                                        · rfl
                                        · rfl
                                      have hSt := Xs.alloc (H := W0.heap.size) (x := X) (w := wz) (.cells #[.int .i64 X.f0, .int .i64 X.f1, .string X.f2, .int .i64 X.f0, .int .i64 X.f1, .string X.f2, .int .i64 X.f0, .int .i64 X.f1, .string X.f2] 31) (Nat.le_trans HB6.out.size HXz.out.size)
                                      have mX := Aside0.mk (HXz.out.trans hSt)
                                      have mF15 := Aside0.mk (⟨Nat.le_trans HB6.out.size HXz.out.size, LX.new3 _ X⟩ : W0.heap.size ≤ wz.heap.size ∧ LX _ wz.heap.size 3 3 X)
                                      have mF4 := Aside0.mk ((⟨HF4.out.1, HF4.out.2.xs HF4.out.1 hSt⟩ : _ ∧ _))
                                      have mF9 := Aside0.mk ((⟨HF9.out.1, HF9.out.2.xs HF9.out.1 hSt⟩ : _ ∧ _))
                                      refine hK.out _ _ ⟨(HBX.out.xs HBXg.out mX.out).cell 0 (by decide), (HBX.out.xs HBXg.out mX.out).cell 1 (by decide), (HBX.out.xs HBXg.out mX.out).cell 2 (by decide)⟩ (fun hHeld => ?_)
                                      clear hK K
                                      refine norm_ (a' := ?_) ?_ ?_
                                      rotate_left
                                      · show Act.put _ (some 125) _ = _
                                        simp only [Act.put, List.setIfInBounds_toArray, List.set_cons_zero, List.set_cons_succ, i64_w, i32_w]
                                        rfl
                                      exact norm_ (by first | (simp only [putAll, Act.put, List.setIfInBounds_toArray, List.set_cons_zero, List.set_cons_succ]; done) | (simp only [putAll, Act.put, List.setIfInBounds_toArray, List.set_cons_zero, List.set_cons_succ]; rfl)) (hJ4_9_15 ⟨g4, g9, wz.heap.size⟩ _ ⟨mX, mF4, mF9, mF15⟩)
                                · skip
                                  rintro ⟨g4, v5⟩ wz ⟨HXz, HF4, HF5⟩
                                  have hHeld := (⟨(HBX.out.xs HBXg.out HXz.out).cell 0 (by decide), (HBX.out.xs HBXg.out HXz.out).cell 1 (by decide), (HBX.out.xs HBXg.out HXz.out).cell 2 (by decide)⟩ : wz.cell? ⟨bx, 0, none⟩ = some (.int .i64 X.f0) ∧ wz.cell? ⟨bx, 1, none⟩ = some (.int .i64 X.f1) ∧ wz.cell? ⟨bx, 2, none⟩ = some (.string X.f2))
                                  refine norm_ (a' := ?_) ?_ ?_
                                  rotate_left
                                  · simp only [putAll, Act.put, List.setIfInBounds_toArray, List.set_cons_zero, List.set_cons_succ]
                                    rfl
                                  refine two_ (i := 9) (j := 15) (Ni := some 119) (Nj := some 125) #[true, true, true, true, true, true, true, true, true, true, false, true, true, true, true, false, false, true, true, false, false, false, false] #[true, true, true, true, true, true, true, true, true, false, false, true, true, true, true, true, false, true, true, false, false, false, false] rfl rfl rfl rfl (by kernel_rfl) (by decide) (by decide) (fun K hK => ?_) (fun K hK => ?_)
                                  · skip
                                    refine value_ (w1 := ?_) (v := ?_) (by rfl) rfl ?_ ?_
                                    rotate_left 2
                                    · go_simp
                                      constructor
                                      · rfl
                                      · rfl
                                    have hSt := Xs.alloc (H := W0.heap.size) (x := X) (w := wz) (.cells #[.int .i64 X.f0, .int .i64 X.f1, .string X.f2, .int .i64 X.f0, .int .i64 X.f1, .string X.f2] 31) (Nat.le_trans HB6.out.size HXz.out.size)
                                    have mX := Aside0.mk (HXz.out.trans hSt)
                                    have mF9 := Aside0.mk (⟨Nat.le_trans HB6.out.size HXz.out.size, LX.new2 _ X⟩ : W0.heap.size ≤ wz.heap.size ∧ LX _ wz.heap.size 2 2 X)
                                    have mF4 := Aside0.mk ((⟨HF4.out.1, HF4.out.2.xs HF4.out.1 hSt⟩ : _ ∧ _))
                                    have mF5 := Aside0.mk (HF5.out.xs hSt)
                                    refine hK.out _ _ ⟨(HBX.out.xs HBXg.out mX.out).cell 0 (by decide), (HBX.out.xs HBXg.out mX.out).cell 1 (by decide), (HBX.out.xs HBXg.out mX.out).cell 2 (by decide)⟩ (fun hHeld => ?_)
                                    clear hK K
                                    refine norm_ (a' := ?_) ?_ ?_
                                    rotate_left
                                    · show Act.put _ (some 119) _ = _
                                      simp only [Act.put, List.setIfInBounds_toArray, List.set_cons_zero, List.set_cons_succ, i64_w, i32_w]
                                      rfl
                                    exact norm_ (by first | (simp only [putAll, Act.put, List.setIfInBounds_toArray, List.set_cons_zero, List.set_cons_succ]; done) | (simp only [putAll, Act.put, List.setIfInBounds_toArray, List.set_cons_zero, List.set_cons_succ]; rfl)) (hJ4_5_9 ⟨g4, v5, wz.heap.size⟩ _ ⟨mX, mF4, mF5, mF9⟩)
                                  · skip
                                    refine value_ (w1 := ?_) (v := ?_) (by rfl) rfl ?_ ?_
                                    rotate_left 2
                                    · go_simp
                                      constructor
                                      · rfl
                                      · rfl
                                    have hSt := Xs.alloc (H := W0.heap.size) (x := X) (w := wz) (.cells #[.int .i64 X.f0, .int .i64 X.f1, .string X.f2, .int .i64 X.f0, .int .i64 X.f1, .string X.f2, .int .i64 X.f0, .int .i64 X.f1, .string X.f2] 31) (Nat.le_trans HB6.out.size HXz.out.size)
                                    have mX := Aside0.mk (HXz.out.trans hSt)
                                    have mF15 := Aside0.mk (⟨Nat.le_trans HB6.out.size HXz.out.size, LX.new3 _ X⟩ : W0.heap.size ≤ wz.heap.size ∧ LX _ wz.heap.size 3 3 X)
                                    have mF4 := Aside0.mk ((⟨HF4.out.1, HF4.out.2.xs HF4.out.1 hSt⟩ : _ ∧ _))
                                    have mF5 := Aside0.mk (HF5.out.xs hSt)
                                    refine hK.out _ _ ⟨(HBX.out.xs HBXg.out mX.out).cell 0 (by decide), (HBX.out.xs HBXg.out mX.out).cell 1 (by decide), (HBX.out.xs HBXg.out mX.out).cell 2 (by decide)⟩ (fun hHeld => ?_)
                                    clear hK K
                                    refine norm_ (a' := ?_) ?_ ?_
                                    rotate_left
                                    · show Act.put _ (some 125) _ = _
                                      simp only [Act.put, List.setIfInBounds_toArray, List.set_cons_zero, List.set_cons_succ, i64_w, i32_w]
                                      rfl
                                    exact norm_ (by first | (simp only [putAll, Act.put, List.setIfInBounds_toArray, List.set_cons_zero, List.set_cons_succ]; done) | (simp only [putAll, Act.put, List.setIfInBounds_toArray, List.set_cons_zero, List.set_cons_succ]; rfl)) (hJ4_5_15 ⟨g4, v5, wz.heap.size⟩ _ ⟨mX, mF4, mF5, mF15⟩)
                              · skip
                                rintro ⟨g4, g9, g15⟩ wz ⟨HXz, HF4, HF9, HF15⟩
                                have hHeld := (⟨(HBX.out.xs HBXg.out HXz.out).cell 0 (by decide), (HBX.out.xs HBXg.out HXz.out).cell 1 (by decide), (HBX.out.xs HBXg.out HXz.out).cell 2 (by decide)⟩ : wz.cell? ⟨bx, 0, none⟩ = some (.int .i64 X.f0) ∧ wz.cell? ⟨bx, 1, none⟩ = some (.int .i64 X.f1) ∧ wz.cell? ⟨bx, 2, none⟩ = some (.string X.f2))
                                refine norm_ (a' := ?_) ?_ ?_
                                rotate_left
                                · simp only [putAll, Act.put, List.setIfInBounds_toArray, List.set_cons_zero, List.set_cons_succ]
                                  rfl
                                refine one_ (i := 5) (N := some 115) #[true, true, true, true, true, true, true, true, true, true, false, true, true, true, true, true, false, true, true, false, false, false, false] rfl rfl (by kernel_rfl) (by decide) (fun K hK => ?_)
                                refine step_app_x (H := W0.heap.size) (x := X) (n := toks.length) (m := 1) rfl (.tmp 112) (.tmp 114) rfl (by rfl) (by rfl) (Nat.le_trans HB6.out.size HXz.out.size) (HSL.out.xs HXz.out) (by decide) (lx_news HF4.out.2) (by have := HN.out; omega) ?_
                                intro v5 w3 hV hSt
                                have mX := Aside0.mk (HXz.out.trans hSt)
                                have mF5 := Aside0.mk hV
                                have mF4 := Aside0.mk ((⟨HF4.out.1, HF4.out.2.xs HF4.out.1 hSt⟩ : _ ∧ _))
                                have mF9 := Aside0.mk ((⟨HF9.out.1, HF9.out.2.xs HF9.out.1 hSt⟩ : _ ∧ _))
                                have mF15 := Aside0.mk ((⟨HF15.out.1, HF15.out.2.xs HF15.out.1 hSt⟩ : _ ∧ _))
                                refine hK.out _ _ ⟨(HBX.out.xs HBXg.out mX.out).cell 0 (by decide), (HBX.out.xs HBXg.out mX.out).cell 1 (by decide), (HBX.out.xs HBXg.out mX.out).cell 2 (by decide)⟩ (fun hHeld => ?_)
                                clear hK K
                                refine norm_ (a' := ?_) ?_ ?_
                                rotate_left
                                · show Act.put _ (some 115) _ = _
                                  simp only [Act.put, List.setIfInBounds_toArray, List.set_cons_zero, List.set_cons_succ, i64_w, i32_w]
                                  rfl
                                exact norm_ (by first | (simp only [putAll, Act.put, List.setIfInBounds_toArray, List.set_cons_zero, List.set_cons_succ]; done) | (simp only [putAll, Act.put, List.setIfInBounds_toArray, List.set_cons_zero, List.set_cons_succ]; rfl)) (hJ4_5_9_15 ⟨g4, v5, g9, g15⟩ _ ⟨mX, mF4, mF5, mF9, mF15⟩)
                            · skip
                              rintro ⟨g4, v5, g15⟩ wz ⟨HXz, HF4, HF5, HF15⟩
                              have hHeld := (⟨(HBX.out.xs HBXg.out HXz.out).cell 0 (by decide), (HBX.out.xs HBXg.out HXz.out).cell 1 (by decide), (HBX.out.xs HBXg.out HXz.out).cell 2 (by decide)⟩ : wz.cell? ⟨bx, 0, none⟩ = some (.int .i64 X.f0) ∧ wz.cell? ⟨bx, 1, none⟩ = some (.int .i64 X.f1) ∧ wz.cell? ⟨bx, 2, none⟩ = some (.string X.f2))
                              refine norm_ (a' := ?_) ?_ ?_
                              rotate_left
                              · simp only [putAll, Act.put, List.setIfInBounds_toArray, List.set_cons_zero, List.set_cons_succ]
                                rfl
                              refine one_ (i := 9) (N := some 119) #[true, true, true, true, true, true, true, true, true, true, false, true, true, true, true, true, false, true, true, false, false, false, false] rfl rfl (by kernel_rfl) (by decide) (fun K hK => ?_)
                              refine value_ (w1 := ?_) (v := ?_) (by rfl) rfl ?_ ?_
                              rotate_left 2
                              · go_simp
                                constructor
                                · rfl
                                · rfl
                              have hSt := Xs.alloc (H := W0.heap.size) (x := X) (w := wz) (.cells #[.int .i64 X.f0, .int .i64 X.f1, .string X.f2, .int .i64 X.f0, .int .i64 X.f1, .string X.f2] 31) (Nat.le_trans HB6.out.size HXz.out.size)
                              have mX := Aside0.mk (HXz.out.trans hSt)
                              have mF9 := Aside0.mk (⟨Nat.le_trans HB6.out.size HXz.out.size, LX.new2 _ X⟩ : W0.heap.size ≤ wz.heap.size ∧ LX _ wz.heap.size 2 2 X)
                              have mF4 := Aside0.mk ((⟨HF4.out.1, HF4.out.2.xs HF4.out.1 hSt⟩ : _ ∧ _))
                              have mF5 := Aside0.mk (HF5.out.xs hSt)
                              have mF15 := Aside0.mk ((⟨HF15.out.1, HF15.out.2.xs HF15.out.1 hSt⟩ : _ ∧ _))
                              refine hK.out _ _ ⟨(HBX.out.xs HBXg.out mX.out).cell 0 (by decide), (HBX.out.xs HBXg.out mX.out).cell 1 (by decide), (HBX.out.xs HBXg.out mX.out).cell 2 (by decide)⟩ (fun hHeld => ?_)
                              clear hK K
                              refine norm_ (a' := ?_) ?_ ?_
                              rotate_left
                              · show Act.put _ (some 119) _ = _
                                simp only [Act.put, List.setIfInBounds_toArray, List.set_cons_zero, List.set_cons_succ, i64_w, i32_w]
                                rfl
                              exact norm_ (by first | (simp only [putAll, Act.put, List.setIfInBounds_toArray, List.set_cons_zero, List.set_cons_succ]; done) | (simp only [putAll, Act.put, List.setIfInBounds_toArray, List.set_cons_zero, List.set_cons_succ]; rfl)) (hJ4_5_9_15 ⟨g4, v5, wz.heap.size, g15⟩ _ ⟨mX, mF4, mF5, mF9, mF15⟩)
                          · skip
                            rintro ⟨g4, v5, g9⟩ wz ⟨HXz, HF4, HF5, HF9⟩
                            have hHeld := (⟨(HBX.out.xs HBXg.out HXz.out).cell 0 (by decide), (HBX.out.xs HBXg.out HXz.out).cell 1 (by decide), (HBX.out.xs HBXg.out HXz.out).cell 2 (by decide)⟩ : wz.cell? ⟨bx, 0, none⟩ = some (.int .i64 X.f0) ∧ wz.cell? ⟨bx, 1, none⟩ = some (.int .i64 X.f1) ∧ wz.cell? ⟨bx, 2, none⟩ = some (.string X.f2))
                            refine norm_ (a' := ?_) ?_ ?_
                            rotate_left
                            · simp only [putAll, Act.put, List.setIfInBounds_toArray, List.set_cons_zero, List.set_cons_succ]
                              rfl
                            refine two_ (i := 10) (j := 15) (Ni := some 120) (Nj := some 125) #[true, true, true, true, true, true, true, true, true, true, true, true, true, true, true, false, false, true, true, false, false, false, false] #[true, true, true, true, true, true, true, true, true, true, false, true, true, true, true, true, false, true, true, false, false, false, false] rfl rfl rfl rfl (by kernel_rfl) (by decide) (by decide) (fun K hK => ?_) (fun K hK => ?_)
                            · skip
                              refine step_app_x (H := W0.heap.size) (x := X) (n := toks.length) (m := 2) rfl (.tmp 116) (.tmp 119) rfl (by rfl) (by rfl) (Nat.le_trans HB6.out.size HXz.out.size) (HSL.out.xs HXz.out) (by decide) (lx_news HF9.out.2) (by have := HN.out; omega) ?_
                              intro v10 w3 hV hSt
                              have mX := Aside0.mk (HXz.out.trans hSt)
                              have mF10 := Aside0.mk hV
                              have mF4 := Aside0.mk ((⟨HF4.out.1, HF4.out.2.xs HF4.out.1 hSt⟩ : _ ∧ _))
                              have mF5 := Aside0.mk (HF5.out.xs hSt)
                              have mF9 := Aside0.mk ((⟨HF9.out.1, HF9.out.2.xs HF9.out.1 hSt⟩ : _ ∧ _))
                              refine hK.out _ _ ⟨(HBX.out.xs HBXg.out mX.out).cell 0 (by decide), (HBX.out.xs HBXg.out mX.out).cell 1 (by decide), (HBX.out.xs HBXg.out mX.out).cell 2 (by decide)⟩ (fun hHeld => ?_)
                              clear hK K
                              refine norm_ (a' := ?_) ?_ ?_
                              rotate_left
                              · show Act.put _ (some 120) _ = _
                                simp only [Act.put, List.setIfInBounds_toArray, List.set_cons_zero, List.set_cons_succ, i64_w, i32_w]
                                rfl
                              exact norm_ (by first | (simp only [putAll, Act.put, List.setIfInBounds_toArray, List.set_cons_zero, List.set_cons_succ]; done) | (simp only [putAll, Act.put, List.setIfInBounds_toArray, List.set_cons_zero, List.set_cons_succ]; rfl)) (hJ4_5_9_10 ⟨g4, v5, g9, v10⟩ _ ⟨mX, mF4, mF5, mF9, mF10⟩)
                            · skip
                              refine value_ (w1 := ?_) (v := ?_) (by rfl) rfl ?_ ?_
                              rotate_left 2
                              · go_simp
                                constructor
                                · rfl
                                · rfl
                              have hSt := Xs.alloc (H := W0.heap.size) (x := X) (w := wz) (.cells #[.int .i64 X.f0, .int .i64 X.f1, .string X.f2, .int .i64 X.f0, .int .i64 X.f1, .string X.f2, .int .i64 X.f0, .int .i64 X.f1, .string X.f2] 31) (Nat.le_trans HB6.out.size HXz.out.size)
                              have mX := Aside0.mk (HXz.out.trans hSt)
                              have mF15 := Aside0.mk (⟨Nat.le_trans HB6.out.size HXz.out.size, LX.new3 _ X⟩ : W0.heap.size ≤ wz.heap.size ∧ LX _ wz.heap.size 3 3 X)
                              have mF4 := Aside0.mk ((⟨HF4.out.1, HF4.out.2.xs HF4.out.1 hSt⟩ : _ ∧ _))
                              have mF5 := Aside0.mk (HF5.out.xs hSt)
                              have mF9 := Aside0.mk ((⟨HF9.out.1, HF9.out.2.xs HF9.out.1 hSt⟩ : _ ∧ _))
                              refine hK.out _ _ ⟨(HBX.out.xs HBXg.out mX.out).cell 0 (by decide), (HBX.out.xs HBXg.out mX.out).cell 1 (by decide), (HBX.out.xs HBXg.out mX.out).cell 2 (by decide)⟩ (fun hHeld => ?_)
                              clear hK K
                              refine norm_ (a' := ?_) ?_ ?_
                              rotate_left
                              · show Act.put _ (some 125) _ = _
                                simp only [Act.put, List.setIfInBounds_toArray, List.set_cons_zero, List.set_cons_succ, i64_w, i32_w]
                                rfl
                              exact norm_ (by first | (simp only [putAll, Act.put, List.setIfInBounds_toArray, List.set_cons_zero, List.set_cons_succ]; done) | (simp only [putAll, Act.put, List.setIfInBounds_toArray, List.set_cons_zero, List.set_cons_succ]; rfl)) (hJ4_5_9_15 ⟨g4, v5, g9, wz.heap.size⟩ _ ⟨mX, mF4, mF5, mF9, mF15⟩)
                        · skip
                          rintro ⟨g4, v5, g9, g15⟩ wz ⟨HXz, HF4, HF5, HF9, HF15⟩
                          have hHeld := (⟨(HBX.out.xs HBXg.out HXz.out).cell 0 (by decide), (HBX.out.xs HBXg.out HXz.out).cell 1 (by decide), (HBX.out.xs HBXg.out HXz.out).cell 2 (by decide)⟩ : wz.cell? ⟨bx, 0, none⟩ = some (.int .i64 X.f0) ∧ wz.cell? ⟨bx, 1, none⟩ = some (.int .i64 X.f1) ∧ wz.cell? ⟨bx, 2, none⟩ = some (.string X.f2))
                          refine norm_ (a' := ?_) ?_ ?_
                          rotate_left
                          · simp only [putAll, Act.put, List.setIfInBounds_toArray, List.set_cons_zero, List.set_cons_succ]
                            rfl
                          refine one_ (i := 10) (N := some 120) #[true, true, true, true, true, true, true, true, true, true, true, true, true, true, true, true, false, true, true, false, false, false, false] rfl rfl (by kernel_rfl) (by decide) (fun K hK => ?_)
                          refine step_app_x (H := W0.heap.size) (x := X) (n := toks.length) (m := 2) rfl (.tmp 116) (.tmp 119) rfl (by rfl) (by rfl) (Nat.le_trans HB6.out.size HXz.out.size) (HSL.out.xs HXz.out) (by decide) (lx_news HF9.out.2) (by have := HN.out; omega) ?_
                          intro v10 w3 hV hSt
                          have mX := Aside0.mk (HXz.out.trans hSt)
                          have mF10 := Aside0.mk hV
                          have mF4 := Aside0.mk ((⟨HF4.out.1, HF4.out.2.xs HF4.out.1 hSt⟩ : _ ∧ _))
                          have mF5 := Aside0.mk (HF5.out.xs hSt)
                          have mF9 := Aside0.mk ((⟨HF9.out.1, HF9.out.2.xs HF9.out.1 hSt⟩ : _ ∧ _))
                          have mF15 := Aside0.mk ((⟨HF15.out.1, HF15.out.2.xs HF15.out.1 hSt⟩ : _ ∧ _))
                          refine hK.out _ _ ⟨(HBX.out.xs HBXg.out mX.out).cell 0 (by decide), (HBX.out.xs HBXg.out mX.out).cell 1 (by decide), (HBX.out.xs HBXg.out mX.out).cell 2 (by decide)⟩ (fun hHeld => ?_)
                          clear hK K
                          refine norm_ (a' := ?_) ?_ ?_
                          rotate_left
                          · show Act.put _ (some 120) _ = _
                            simp only [Act.put, List.setIfInBounds_toArray, List.set_cons_zero, List.set_cons_succ, i64_w, i32_w]
                            rfl
                          exact norm_ (by first | (simp only [putAll, Act.put, List.setIfInBounds_toArray, List.set_cons_zero, List.set_cons_succ]; done) | (simp only [putAll, Act.put, List.setIfInBounds_toArray, List.set_cons_zero, List.set_cons_succ]; rfl)) (hJ4_5_9_10_15 ⟨g4, v5, g9, v10, g15⟩ _ ⟨mX, mF4, mF5, mF9, mF10, mF15⟩)
                      · skip
                        rintro ⟨g4, v5, g9, v10⟩ wz ⟨HXz, HF4, HF5, HF9, HF10⟩
                        have hHeld := (⟨(HBX.out.xs HBXg.out HXz.out).cell 0 (by decide), (HBX.out.xs HBXg.out HXz.out).cell 1 (by decide), (HBX.out.xs HBXg.out HXz.out).cell 2 (by decide)⟩ : wz.cell? ⟨bx, 0, none⟩ = some (.int .i64 X.f0) ∧ wz.cell? ⟨bx, 1, none⟩ = some (.int .i64 X.f1) ∧ wz.cell? ⟨bx, 2, none⟩ = some (.string X.f2))
                        refine norm_ (a' := ?_) ?_ ?_
                        rotate_left
                        · simp only [putAll, Act.put, List.setIfInBounds_toArray, List.set_cons_zero, List.set_cons_succ]
                          rfl
                        refine one_ (i := 15) (N := some 125) #[true, true, true, true, true, true, true, true, true, true, true, true, true, true, true, true, false, true, true, false, false, false, false] rfl rfl (by kernel_rfl) (by decide) (fun K hK => ?_)
                        refine value_ (w1 := ?_) (v := ?_) (by rfl) rfl ?_ ?_
                        rotate_left 2
                        · go_simp
                          constructor
                          · rfl
                          · rfl
                        have hSt := Xs.alloc (H := W0.heap.size) (x := X) (w := wz) (.cells #[.int .i64 X.f0, .int .i64 X.f1, .string X.f2, .int .i64 X.f0, .int .i64 X.f1, .string X.f2, .int .i64 X.f0, .int .i64 X.f1, .string X.f2] 31) (Nat.le_trans HB6.out.size HXz.out.size)
                        have mX := Aside0.mk (HXz.out.trans hSt)
                        have mF15 := Aside0.mk (⟨Nat.le_trans HB6.out.size HXz.out.size, LX.new3 _ X⟩ : W0.heap.size ≤ wz.heap.size ∧ LX _ wz.heap.size 3 3 X)
                        have mF4 := Aside0.mk ((⟨HF4.out.1, HF4.out.2.xs HF4.out.1 hSt⟩ : _ ∧ _))
                        have mF5 := Aside0.mk (HF5.out.xs hSt)
                        have mF9 := Aside0.mk ((⟨HF9.out.1, HF9.out.2.xs HF9.out.1 hSt⟩ : _ ∧ _))
                        have mF10 := Aside0.mk (HF10.out.xs hSt)
                        refine hK.out _ _ ⟨(HBX.out.xs HBXg.out mX.out).cell 0 (by decide), (HBX.out.xs HBXg.out mX.out).cell 1 (by decide), (HBX.out.xs HBXg.out mX.out).cell 2 (by decide)⟩ (fun hHeld => ?_)
                        clear hK K
                        refine norm_ (a' := ?_) ?_ ?_
                        rotate_left
                        · show Act.put _ (some 125) _ = _
                          simp only [Act.put, List.setIfInBounds_toArray, List.set_cons_zero, List.set_cons_succ, i64_w, i32_w]
                          rfl
                        exact norm_ (by first | (simp only [putAll, Act.put, List.setIfInBounds_toArray, List.set_cons_zero, List.set_cons_succ]; done) | (simp only [putAll, Act.put, List.setIfInBounds_toArray, List.set_cons_zero, List.set_cons_succ]; rfl)) (hJ4_5_9_10_15 ⟨g4, v5, g9, v10, wz.heap.size⟩ _ ⟨mX, mF4, mF5, mF9, mF10, mF15⟩)
                    rintro ⟨g4, v5, g9, v10, g15⟩ wz ⟨HXz, HF4, HF5, HF9, HF10, HF15⟩
                    have hHeld := (⟨(HBX.out.xs HBXg.out HXz.out).cell 0 (by decide), (HBX.out.xs HBXg.out HXz.out).cell 1 (by decide), (HBX.out.xs HBXg.out HXz.out).cell 2 (by decide)⟩ : wz.cell? ⟨bx, 0, none⟩ = some (.int .i64 X.f0) ∧ wz.cell? ⟨bx, 1, none⟩ = some (.int .i64 X.f1) ∧ wz.cell? ⟨bx, 2, none⟩ = some (.string X.f2))
                    refine norm_ (a' := ?_) ?_ ?_
                    rotate_left
                    · simp only [putAll, Act.put, List.setIfInBounds_toArray, List.set_cons_zero, List.set_cons_succ]
                      rfl
                    refine one_ (i := 16) (N := some 126) #[true, true, true, true, true, true, true, true, true, true, true, true, true, true, true, true, true, true, true, false, false, false, false] rfl rfl (by kernel_rfl) (by decide) (fun K hK => ?_)
                    refine step_app_x (H := W0.heap.size) (x := X) (n := toks.length) (m := 3) rfl (.tmp 121) (.tmp 125) rfl (by rfl) (by rfl) (Nat.le_trans HB6.out.size HXz.out.size) (HSL.out.xs HXz.out) (by decide) (lx_news HF15.out.2) (by have := HN.out; omega) ?_
                    intro v16 w16 hV hSt
                    have mX := Aside0.mk (HXz.out.trans hSt)
                    have mF16 := Aside0.mk hV
                    have mF4 := Aside0.mk ((⟨HF4.out.1, HF4.out.2.xs HF4.out.1 hSt⟩ : _ ∧ _))
                    have mF5 := Aside0.mk (HF5.out.xs hSt)
                    have mF9 := Aside0.mk ((⟨HF9.out.1, HF9.out.2.xs HF9.out.1 hSt⟩ : _ ∧ _))
                    have mF10 := Aside0.mk (HF10.out.xs hSt)
                    have mF15 := Aside0.mk ((⟨HF15.out.1, HF15.out.2.xs HF15.out.1 hSt⟩ : _ ∧ _))
                    clear HXz HF4 HF5 HF9 HF10 HF15 hV hSt
                    have HXz := mX
                    have HF5 := mF5
                    have HF10 := mF10
                    have HF16 := mF16
                    clear mX mF4 mF5 mF9 mF10 mF15 mF16
                    refine hK.out _ _ ⟨(HBX.out.xs HBXg.out HXz.out).cell 0 (by decide), (HBX.out.xs HBXg.out HXz.out).cell 1 (by decide), (HBX.out.xs HBXg.out HXz.out).cell 2 (by decide)⟩ (fun hHeld => ?_)
                    clear hK K
                    refine norm_ (a' := ?_) ?_ ?_
                    rotate_left
                    · show Act.put _ (some 126) _ = _
                      simp only [Act.put, List.setIfInBounds_toArray, List.set_cons_zero, List.set_cons_succ, i64_w, i32_w]
                      rfl
                    refine one_ (i := 19) (N := some 129) #[true, true, true, true, true, true, true, true, true, true, true, true, true, true, true, true, true, true, true, true, false, false, false] rfl rfl (by kernel_rfl) (by decide) (fun K hK => ?_)
                    obtain ⟨adm, hadm, hnw⟩ := (HSM.out.xs HXz.out).news (by decide)
                    refine step_app_x (H := W0.heap.size) (x := X) (n := toks.length) (m := 96) rfl (.tmp 127) (.tmp 128) rfl (by rfl) (by first | rfl | (rw [← hadm]; rfl)) (Nat.le_trans HB6.out.size HXz.out.size) (HSL.out.xs HXz.out) (by decide) hnw (by have := HN.out; omega) ?_
                    intro v19 w19 hV hSt
                    have mX := Aside0.mk (HXz.out.trans hSt)
                    have mF19 := Aside0.mk hV
                    have mF5 := Aside0.mk (HF5.out.xs hSt)
                    have mF10 := Aside0.mk (HF10.out.xs hSt)
                    have mF16 := Aside0.mk (HF16.out.xs hSt)
                    clear HXz HF5 HF10 HF16 hV hSt hnw
                    have HXz := mX
                    have HF5 := mF5
                    have HF10 := mF10
                    have HF16 := mF16
                    have HF19 := mF19
                    clear mX mF5 mF10 mF16 mF19
                    refine hK.out _ _ ⟨(HBX.out.xs HBXg.out HXz.out).cell 0 (by decide), (HBX.out.xs HBXg.out HXz.out).cell 1 (by decide), (HBX.out.xs HBXg.out HXz.out).cell 2 (by decide)⟩ (fun hHeld => ?_)
                    clear hK K
                    refine norm_ (a' := ?_) ?_ ?_
                    rotate_left
                    · show Act.put _ (some 129) _ = _
                      simp only [Act.put, List.setIfInBounds_toArray, List.set_cons_zero, List.set_cons_succ, i64_w, i32_w]
                      rfl
                    refine one_ (i := 20) (N := some 130) #[true, true, true, true, true, true, true, true, true, true, true, true, true, true, true, true, true, true, true, true, true, false, false] rfl rfl (by kernel_rfl) (by decide) (fun K hK => ?_)
                    obtain ⟨Aa, ca, rfl⟩ := HF5.out.slice
                    obtain ⟨Ab, cb, rfl⟩ := HF10.out.slice
                    obtain ⟨Ac, cc, rfl⟩ := HF16.out.slice
                    obtain ⟨Ad, cd, rfl⟩ := HF19.out.slice
                    refine value_ (w1 := ?_) (v := ?_) (by rfl) rfl ?_ ?_
                    rotate_left 2
                    · go_simp
                      constructor
                      · rfl
                      · rfl
                    have hSt := Xs.alloc (H := W0.heap.size) (x := X) (w := w19) (.cells #[.slice A5 toks.length c5, .slice Aa (toks.length + 1) ca, .slice Ab (toks.length + 2) cb, .slice Ac (toks.length + 3) cc, .slice Ad (toks.length + 96) cd] 25) (Nat.le_trans HB6.out.size HXz.out.size)
                    have mX := Aside0.mk (HXz.out.trans hSt)
                    have mF5 := Aside0.mk (HF5.out.xs hSt)
                    have mF10 := Aside0.mk (HF10.out.xs hSt)
                    have mF16 := Aside0.mk (HF16.out.xs hSt)
                    have mF19 := Aside0.mk (HF19.out.xs hSt)
                    refine hK.out _ _ ⟨(HBX.out.xs HBXg.out mX.out).cell 0 (by decide), (HBX.out.xs HBXg.out mX.out).cell 1 (by decide), (HBX.out.xs HBXg.out mX.out).cell 2 (by decide)⟩ (fun hHeld => ?_)
                    clear hK K
                    refine norm_ (a' := ?_) ?_ ?_
                    rotate_left
                    · show Act.put _ (some 130) _ = _
                      simp only [Act.put, List.setIfInBounds_toArray, List.set_cons_zero, List.set_cons_succ, i64_w, i32_w]
                      rfl
                    refine one_ (i := 21) (N := some 131) #[true, true, true, true, true, true, true, true, true, true, true, true, true, true, true, true, true, true, true, true, true, true, false] rfl rfl (by kernel_rfl) (by decide) (fun K hK => ?_)
                    have hbz := Below.trans HB6.out mX.out.low
                    have hown := own_bel HP0.out.1.own hbz
                    have hne : ∀ g cur, _ → _ := fun g cur hg => own_row25 (g := g) (cur := cur) hown hg
                    obtain ⟨i25, hi25, hz25⟩ := Option.map_eq_some_iff.1 info25
                    simp only [Prod.mk.injEq] at hz25
                    obtain ⟨z0, z1, z2⟩ := hz25
                    refine step_append_lies _ rfl (.tmp 110) (.tmp 130) 24 rfl w.heap.size 25 i25 (.slice none 0 0) 1 24 Tryd.underlying24 hi25 z0 z1 z2 rfl (by decide) (.slice A3 KL.length c3) KL.length (KL.map Prod.fst) (by rfl) hown ⟨w19.heap.size, 0, none⟩ 5 5 [.slice A5 toks.length c5, .slice Aa (toks.length + 1) ca, .slice Ab (toks.length + 2) cb, .slice Ac (toks.length + 3) cc, .slice Ad (toks.length + 96) cd] (by rfl) rfl (World.news_of_block (fr := (0, 0)) (heap_alloc_new w19 _)) (fun u hu => by simp only [List.mem_cons, List.not_mem_nil, or_false] at hu; rcases hu with rfl | rfl | rfl | rfl | rfl <;> rfl) (by decide) (by simp only [maxLen]; have := HP0.out.2; have := HK.out; have := HW.out; omega) (by have := HP0.out.2; have := HK.out; have := HW.out; omega) (Nat.le_trans HB.out.size hbz.size) _ rfl ?_
                    intro gk capk wk hok hgk _ _
                    have HOk := Aside0.mk hok
                    have HGk := Aside0.mk (HB.out.size)
                    have HF0 := Aside0.mk (((HSL.out.xs mX.out).grown hgk hne).mono HGk.out)
                    have HG5 := Aside0.mk ((mF5.out.grown hgk hne).mono HGk.out)
                    have HG10 := Aside0.mk ((mF10.out.grown hgk hne).mono HGk.out)
                    have HG16 := Aside0.mk ((mF16.out.grown hgk hne).mono HGk.out)
                    have HG19 := Aside0.mk ((mF19.out.grown hgk hne).mono HGk.out)
                    have HOld := Aside0.mk (fun (q : Nat) (p : Value × Nat) (hq : KL[q]? = some p) => (⟨((HP0.out.1.sees q p hq).1.below hbz).grown hgk hne, (HP0.out.1.sees q p hq).2⟩ : _ ∧ _))
                    have hbx2 := (HBX.out.xs HBXg.out mX.out).grown hgk hne
                    have HBk := Aside0.mk ((bel_tr HB.out HB.out.size hbz).grown hgk (Nat.le_trans HB.out.size hbz.size) (own_base hown))
                    refine hK.out _ _ ⟨hbx2.cell 0 (by decide), hbx2.cell 1 (by decide), hbx2.cell 2 (by decide)⟩ (fun hHeld => ?_)
                    clear hK K
                    refine norm_ (a' := ?_) ?_ ?_
                    rotate_left
                    · show Act.put _ (some 131) _ = _
                      simp only [Act.put, List.setIfInBounds_toArray, List.set_cons_zero, List.set_cons_succ, i64_w, i32_w]
                      rfl
                    refine pure_ (i := 22) (N := some 3) (v := ?_) (a' := ?_) #[true, true, true, true, true, true, true, true, true, true, true, true, true, true, true, true, true, true, true, true, true, true, true] rfl rfl (by kernel_rfl) (fun _ _ _ h => h) (Or.inl ⟨by rfl, ?_⟩) ?_ ?_
                    rotate_left
                    · intro w'
                      go_simp
                      with_reducible rfl
                    rotate_left
                    · simp only [Act.put, List.setIfInBounds_toArray, List.set_cons_zero, List.set_cons_succ, i64_w, i32_w]
                      rfl
                    refine done_ (by kernel_rfl) ?_
                    go_wp2
                    go_roundg k1
                    case measure => have := HK.out; omega
                    case rel =>
                      have ei : wrap64 (i + 1) = i + 1 := w64_in _ (by have := HK.out; have := HW.out; omega)
                      refine ⟨wrap64 (i + 1), KL ++ [(.slice A5 toks.length c5, toks.length), (.slice Aa (toks.length + 1) ca, toks.length + 1), (.slice Ab (toks.length + 2) cb, toks.length + 2), (.slice Ac (toks.length + 3) cc, toks.length + 3), (.slice Ad (toks.length + 96) cd, toks.length + 96)], by first | rfl | (simp; done), ⟨by rw [ei]; have := HK.out; omega⟩, ⟨⟨by have := HOk.out; simpa using this, fun q p hq => ?_⟩, by rw [ei, List.length_append]; show ((KL.length + 5 : Nat) : Int) = _; have := HP0.out.2; omega⟩, HBk⟩
                      by_cases c : q < KL.length
                      · rw [List.getElem?_append_left c] at hq
                        exact HOld.out q p hq
                      · rw [List.getElem?_append_right (by omega)] at hq
                        have hlt := (List.getElem?_eq_some_iff.1 hq).1
                        have hq5 : ((q / 5 : Nat) : Int) = i := by have := HP0.out.2; have := HK.out; simp at hlt; omega
                        rw [hq5, ← HX.out]
                        have hn := HN.out
                        obtain ⟨t, ht⟩ : ∃ t, t = q - KL.length := ⟨_, rfl⟩
                        rw [← ht] at hq hlt
                        simp only [List.length_cons, List.length_nil] at hlt
                        rcases (show t = 0 ∨ t = 1 ∨ t = 2 ∨ t = 3 ∨ t = 4 by omega) with rfl | rfl | rfl | rfl | rfl
                        · obtain rfl := Option.some.inj hq; exact ⟨HF0.out, by show toks.length ≤ _; omega⟩
                        · obtain rfl := Option.some.inj hq; exact ⟨HG5.out, by show toks.length + 1 ≤ _; omega⟩
                        · obtain rfl := Option.some.inj hq; exact ⟨HG10.out, by show toks.length + 2 ≤ _; omega⟩
                        · obtain rfl := Option.some.inj hq; exact ⟨HG16.out, by show toks.length + 3 ≤ _; omega⟩
                        · obtain rfl := Option.some.inj hq; exact ⟨HG19.out, by show toks.length + 96 ≤ _; omega⟩
                  | succ k3 =>
                    have hdm : decide ((m : Int) < 96) = true := decide_eq_true (by have := HM.out; omega)
                    have hx0 : wr.cell? ⟨bx, 0, none⟩ = some (.int .i64 X.f0) := HBX.out.cell 0 (by decide)
                    have hx1 : wr.cell? ⟨bx, 1, none⟩ = some (.int .i64 X.f1) := HBX.out.cell 1 (by decide)
                    have hx2 : wr.cell? ⟨bx, 2, none⟩ = some (.string X.f2) := HBX.out.cell 2 (by decide)
                    have hne : ((toks.length : Int) + ((m : Int) + 1) != wrap64 ((toks.length : Int) + ((m : Int) + 1))) = false := by
                      rw [w64_in _ (by have := HM.out; have := HN.out; omega)]
                      simp
                    go_wp2_with (first | ((with_reducible refine gate_builtin (b := .append) (xs := #[.tmp 96, .tmp 98]) rfl ?_); at_builtin; refine wpl_app_x (H := W0.heap.size) (x := X) (n := m) (m := 1) rfl (.tmp 96) (.tmp 98) rfl rfl rfl (Nat.le_trans HB6.out.size (below_alloc (Below.refl _ _) _).size) (HSM.out.below (below_alloc (Below.refl _ _) _)) (by decide) (one_news (LX.new wr X)) (by have := HM.out; omega) ?_; intro v1 w7 hV hXs; have hX7 := (Xs.alloc _ HB6.out.size).trans hXs; have n0_ := Aside0.mk (HBX.out.xs HBXg.out hX7); have n1_ := Aside0.mk (HSL.out.xs hX7); have n2_ := Aside0.mk (Below.trans HB6.out hX7.low); have n3_ := Aside0.mk hV; clear HBX HSL HB6 HSM hV hXs hX7; have HBX := n0_; have HSL := n1_; have HB6 := n2_; have HSM := n3_; clear n0_ n1_ n2_ n3_; obtain ⟨Am2, cm2, rfl⟩ := HSM.out.slice; obtain ⟨adm, hadm, hnw⟩ := HSM.out.news (by omega); subst hadm; have HNW := Aside0.mk hnw; clear hnw) | ((with_reducible refine gate_builtin (b := .append) (xs := #[.tmp 100, .tmp 101]) rfl ?_); at_builtin; refine wpl_app_x (H := W0.heap.size) (x := X) (n := toks.length) (m := m + 1) rfl (.tmp 100) (.tmp 101) rfl rfl rfl HB6.out.size HSL.out (by omega) HNW.out (by have := HM.out; have := HN.out; omega) ?_; intro v2 w8 hV hXs; obtain ⟨A9, c9, rfl⟩ := hV.slice; have n0_ := Aside0.mk (HBX.out.xs HBXg.out hXs); have n1_ := Aside0.mk (HSL.out.xs hXs); have n2_ := Aside0.mk (Below.trans HB6.out hXs.low); have n3_ := Aside0.mk (HSM.out.xs hXs); clear HBX HSL HB6 HSM hV hXs HNW; have HBX := n0_; have HSL := n1_; have HB6 := n2_; have HSM := n3_; clear n0_ n1_ n2_ n3_))
                    go_roundg k3
                    case measure => have := HM.out; omega
                    case rel => exact ⟨m + 1, ⟨by have := HM.out; omega⟩, HSM, HBX, HSL, HB6⟩
              | succ k2 =>
                have hj0 : 0 ≤ j := HJ.out.1
                have hj1 : j < (toks.length : Int) := by have := HJ.out; omega
                have hdj : decide (j < (toks.length : Int)) = true := decide_eq_true hj1
                rcases HLR.out with ⟨_, h0⟩ | ⟨g, cap, hv, hg, hn, hm, hlx⟩
                · exfalso; omega
                · injection hv with hA _ hc
                  subst hA; subst hc
                  have HLX := Aside0.mk hlx
                  have HG := Aside0.mk hg
                  have HCap := Aside0.mk hn
                  have HMx := Aside0.mk hm
                  have hx0 : wr.cell? ⟨bx, 0, none⟩ = some (.int .i64 X.f0) := HBX.out.cell 0 (by decide)
                  have hx1 : wr.cell? ⟨bx, 1, none⟩ = some (.int .i64 X.f1) := HBX.out.cell 1 (by decide)
                  have hx2 : wr.cell? ⟨bx, 2, none⟩ = some (.string X.f2) := HBX.out.cell 2 (by decide)
                  obtain ⟨⟨u0, hu0⟩, ⟨u1, hu1⟩, ⟨u2, hu2⟩, hfz⟩ := hlx.free (j := j.toNat) (by omega)
                  have hfz0 := hfz (j.toNat * 3)
                  have hfz1 := hfz (j.toNat * 3 + 1)
                  have hfz2 := hfz (j.toNat * 3 + 2)
                  clear hfz hlx hg hn hm
                  replace hj0 := eq_true hj0
                  replace hj1 := eq_true hj1
                  go_wp2
                  have h3 := HLX.out.set3 HG.out (show j.toNat < c5 by have := HCap.out; have := HJ.out; omega)
                  go_roundg k2
                  case measure => have := HJ.out; omega
                  case rel =>
                    have ej : wrap64 (j + 1) = j + 1 := w64_in _ (by have := HJ.out; have := HN.out; omega)
                    exact ⟨wrap64 (j + 1), by first | rfl | (simp; done), ⟨by rw [ej]; have := HJ.out; omega⟩, ⟨HBX.out.xs HBXg.out h3.2⟩, ⟨.inr ⟨g, c5, rfl, HG.out, HCap.out, HMx.out, by rw [ej, show (j + 1).toNat = j.toNat + 1 by have := HJ.out; omega]; exact h3.1⟩⟩, ⟨Below.trans HB6.out h3.2.low⟩⟩
          | succ k2 =>
            have hq0 : 0 ≤ q := HQ.out.1
            have hq1 : q < (KL.length : Int) := by have := HQ.out; omega
            have hdq : decide (q < (KL.length : Int)) = true := decide_eq_true hq1
            obtain ⟨p, hp⟩ : ∃ p, KL[q.toNat]? = some p := ⟨_, List.getElem?_eq_getElem (show q.toNat < KL.length by omega)⟩
            have HPq := Aside0.mk (HP.out.1.below HB2.out)
            obtain ⟨adq, e0, cq⟩ := own1_at HPq.out.own q hq0 hq1
            cases e0
            rw [List.getElem?_map, hp] at cq
            replace cq : wr.cell? (adq.add q.toNat) = some p.1 := cq
            obtain ⟨hsv, hpn⟩ := HPq.out.sees q.toNat p hp
            obtain ⟨q5, hq5⟩ : ∃ q5 : Int, q5 = ((q.toNat / 5 : Nat) : Int) := ⟨_, rfl⟩
            rw [← hq5] at hsv
            have hdiv : wrap64 (q.tdiv 5) = q5 := by rw [hq5, Int.tdiv_eq_ediv_of_nonneg hq0, w64_in _ (by have := HQ.out; have := HP.out.2; have := HK.out; have := HW.out; omega)]; omega
            obtain ⟨Ap, cp, hpv⟩ := hsv.slice
            rw [hpv] at cq hsv
            have HSv := Aside0.mk hsv
            have HPn := Aside0.mk hpn
            have HCq := Aside0.mk cq
            clear hsv hpn hp hq5
            replace hq0 := eq_true hq0
            replace hq1 := eq_true hq1
            go_wp2
            obtain ⟨wq, hwq⟩ : ∃ wq, wq = wr := ⟨_, rfl⟩
            go_loopg [12] p.2 (fun kq vj w' => ∃ j : Int, vj = .int .i64 j ∧ Aside0 (0 ≤ j ∧ (kq : Int) + j = (p.2 : Int)) ∧ Aside0 (Below wr.heap.size wr w'))
            case atStart => exact ⟨0, rfl, ⟨⟨Int.le_refl 0, by omega⟩⟩, ⟨Below.refl _ _⟩⟩
            case round =>
              obtain ⟨j, rfl, HJ, HB3⟩ := hrel
              have cq := (HB3.out.cell (World.block_lt_of_cell? _ _ HCq.out)).trans HCq.out
              cases gk with
              | zero =>
                have hdj : decide (j < (p.2 : Int)) = false := decide_eq_false (by have := HJ.out; omega)
                go_wp2
                go_roundg k2
                case measure => have := HQ.out; omega
                case rel => exact ⟨wrap64 (q + 1), by first | rfl | (simp; done), ⟨by rw [w64_in _ (by have := HQ.out; have := HK.out; have := HW.out; have := HP.out.2; omega)]; have := HQ.out; omega⟩, ⟨bel_tr HB2.out HB2.out.size HB3.out⟩⟩
              | succ k3 =>
                have hj0 : 0 ≤ j := HJ.out.1
                have hj1 : j < (p.2 : Int) := by have := HJ.out; omega
                have hdj : decide (j < (p.2 : Int)) = true := decide_eq_true hj1
                have HSw := Aside0.mk (HSv.out.below HB3.out)
                obtain ⟨adp, e0, cx0, cx1, cx2⟩ := HSw.out.at_ j hj0 hj1
                cases e0
                replace hj0 := eq_true hj0
                replace hj1 := eq_true hj1
                go_wp2
                refine start_ (n := 11) (S := fun w' => w'.cell? (adq.add q.toNat) = some (.slice (some adp) p.2 cp) ∧ w'.cell? (adp.add (j.toNat * 3)) = some (.int .i64 (mkT q5).f0) ∧ w'.cell? ⟨(adp.add (j.toNat * 3)).block, (adp.add (j.toNat * 3)).off + 1, none⟩ = some (.int .i64 (mkT q5).f1) ∧ w'.cell? ⟨(adp.add (j.toNat * 3)).block, (adp.add (j.toNat * 3)).off + 2, none⟩ = some (.string (mkT q5).f2)) (ds := []) #[false, false, false, false, false, false, false, false, false, false, false] (by kernel_rfl) rfl rfl ⟨(by simpa using cq), (by simpa using cx0), (by simpa using cx1), (by simpa using cx2)⟩ (fun hHeld => ?_)
                refine pure_ (i := 0) (N := some 68) (v := ?_) (a' := ?_) #[true, false, false, false, false, false, false, false, false, false, false] rfl rfl (by kernel_rfl) (fun _ _ _ h => h) (Or.inl ⟨by rfl, ?_⟩) ?_ ?_
                rotate_left
                · intro w'
                  go_simp
                  with_reducible rfl
                rotate_left
                · simp only [Act.put, List.setIfInBounds_toArray, List.set_cons_zero, List.set_cons_succ, i64_w, i32_w]
                  rfl
                refine pure_ (i := 1) (N := some 69) (v := ?_) (a' := ?_) #[true, true, false, false, false, false, false, false, false, false, false] rfl rfl (by kernel_rfl) (fun _ _ _ h => h) (Or.inl ⟨by rfl, ?_⟩) ?_ ?_
                rotate_left
                · intro w'
                  go_simp
                  with_reducible rfl
                rotate_left
                · simp only [Act.put, List.setIfInBounds_toArray, List.set_cons_zero, List.set_cons_succ, i64_w, i32_w]
                  rfl
                refine pure_ (i := 2) (N := some 70) (v := ?_) (a' := ?_) #[true, true, true, false, false, false, false, false, false, false, false] rfl rfl (by kernel_rfl) (fun _ _ _ h => h) (Or.inl ⟨by rfl, ?_⟩) ?_ ?_
                rotate_left
                · intro w'
                  go_simp
                  with_reducible rfl
                rotate_left
                · simp only [Act.put, List.setIfInBounds_toArray, List.set_cons_zero, List.set_cons_succ, i64_w, i32_w]
                  rfl
                refine pure_ (i := 4) (N := some 72) (v := ?_) (a' := ?_) #[true, true, true, false, true, false, false, false, false, false, false] rfl rfl (by kernel_rfl) (fun _ _ _ h => h) (Or.inl ⟨by rfl, ?_⟩) ?_ ?_
                rotate_left
                · intro w'
                  go_simp
                  with_reducible rfl
                rotate_left
                · simp only [Act.put, List.setIfInBounds_toArray, List.set_cons_zero, List.set_cons_succ, i64_w, i32_w]
                  rfl
                refine pure_ (i := 7) (N := some 75) (v := ?_) (a' := ?_) #[true, true, true, false, true, false, false, true, false, false, false] rfl rfl (by kernel_rfl) (fun _ _ _ h => h) (Or.inl ⟨by rfl, ?_⟩) ?_ ?_
                rotate_left
                · intro w'
                  go_simp
                  with_reducible rfl
                rotate_left
                · simp only [Act.put, List.setIfInBounds_toArray, List.set_cons_zero, List.set_cons_succ, i64_w, i32_w]
                  rfl
                refine pure_ (i := 8) (N := some 76) (v := ?_) (a' := ?_) #[true, true, true, false, true, false, false, true, true, false, false] rfl rfl (by kernel_rfl) (fun _ _ _ h => h) (Or.inl ⟨by rfl, ?_⟩) ?_ ?_
                rotate_left
                · intro w'
                  go_simp
                  with_reducible rfl
                rotate_left
                · simp only [Act.put, List.setIfInBounds_toArray, List.set_cons_zero, List.set_cons_succ, i64_w, i32_w]
                  rfl
                refine take_ (i := 3) (N := some 71) (v := ?_) (a' := ?_) #[true, true, true, true, true, false, false, true, true, false, false] rfl rfl (by kernel_rfl) (fun _ _ _ h => h) (Or.inl ⟨by rfl, ?_⟩) hHeld ?_ ?_
                rotate_left
                · rintro w' ⟨s0, s1, s2, s3⟩
                  go_simp
                  with_reducible rfl
                rotate_left
                · simp only [Act.put, List.setIfInBounds_toArray, List.set_cons_zero, List.set_cons_succ, i64_w, i32_w]
                  rfl
                refine pure_ (i := 5) (N := some 73) (v := ?_) (a' := ?_) #[true, true, true, true, true, true, false, true, true, false, false] rfl rfl (by kernel_rfl) (fun _ _ _ h => h) (Or.inl ⟨by rfl, ?_⟩) ?_ ?_
                rotate_left
                · intro w'
                  go_simp
                  with_reducible rfl
                rotate_left
                · simp only [Act.put, List.setIfInBounds_toArray, List.set_cons_zero, List.set_cons_succ, i64_w, i32_w]
                  rfl
                refine take_ (i := 6) (N := some 74) (v := ?_) (a' := ?_) #[true, true, true, true, true, true, true, true, true, false, false] rfl rfl (by kernel_rfl) (fun _ _ _ h => h) (Or.inl ⟨by rfl, ?_⟩) hHeld ?_ ?_
                rotate_left
                · rintro w' ⟨s0, s1, s2, s3⟩
                  go_simp
                  with_reducible rfl
                rotate_left
                · simp only [Act.put, List.setIfInBounds_toArray, List.set_cons_zero, List.set_cons_succ, i64_w, i32_w]
                  rfl
                refine one_ (i := 9) (N := some 77) #[true, true, true, true, true, true, true, true, true, true, false] rfl rfl (by kernel_rfl) (by decide) (fun K hK => ?_)
                refine goes_ Tryd.func8 (by kernel_rfl) rfl #[.int .i64 (wrap64 (q.tdiv 5))] (by rfl) rfl rfl (by simp only [List.map_toArray, List.map_cons, List.map_nil]; rfl) ?_
                rw [hdiv]
                with_reducible refine (sigillaw4_mark.calls q5 (mkT q5).f0 (mkT q5).f1 (mkT q5).f2 _ rfl).mono ?_
                rintro e w3 ⟨rfl, hB3⟩
                refine ⟨_, rfl, ?_⟩
                refine hK.out _ _ ⟨((hB3.cell (World.block_lt_of_cell? _ _ hHeld.1)).trans hHeld.1), ((hB3.cell (World.block_lt_of_cell? _ _ hHeld.2.1)).trans hHeld.2.1), ((hB3.cell (World.block_lt_of_cell? _ _ hHeld.2.2.1)).trans hHeld.2.2.1), ((hB3.cell (World.block_lt_of_cell? _ _ hHeld.2.2.2)).trans hHeld.2.2.2)⟩ (fun hHeld => ?_)
                clear hK K
                refine norm_ (a' := ?_) ?_ ?_
                rotate_left
                · show Act.put _ (some 77) _ = _
                  simp only [Act.put, List.setIfInBounds_toArray, List.set_cons_zero, List.set_cons_succ, i64_w, i32_w]
                  rfl
                refine pure_ (i := 10) (N := some 78) (v := ?_) (a' := ?_) #[true, true, true, true, true, true, true, true, true, true, true] rfl rfl (by kernel_rfl) (fun _ _ _ h => h) (Or.inl ⟨by rfl, ?_⟩) ?_ ?_
                rotate_left
                · intro w'
                  go_simp
                  with_reducible rfl
                rotate_left
                · simp only [Act.put, List.setIfInBounds_toArray, List.set_cons_zero, List.set_cons_succ, i64_w, i32_w]
                  rfl
                refine done_ (by kernel_rfl) ?_
                go_wp2
                go_roundg k3
                case measure => have := HJ.out; omega
                case rel => exact ⟨wrap64 (j + 1), by first | rfl | (simp; done), ⟨by rw [w64_in _ (by have := HJ.out; have := HPn.out; omega)]; have := HJ.out; omega⟩, ⟨below_step (by repeat (first | (with_reducible first | exact HB3.out | apply below_alloc | apply pw_below_drewN | apply below_drew1) | exact HB3.out)) hB3⟩⟩
  · rw [if_neg hp] at h
    cases h
end Go.Proofs.YtbpiahpkbapijaaDoor.A
end
section
namespace Go.Proofs.YtbpiahpkbapijaaDoor.A
open Go.RowKit Go.Proofs.YtbpiahpkbapijaaDoorW.PrintWords Go.Proofs.YtbpiahpkbapijaaDoorW.PrintLast Go.Proofs.YtbpiahpkbapijaaDoorW.PrintMore
set_option linter.unusedVariables false
set_option linter.unusedSimpArgs false
theorem book.calls (k : Nat) (A0 : Option Addr) (c0 : Nat) (l0 : List ByteArray) (r : Bool) (w : World) (hr0 : Kd.C Kd.string w A0 l0.length l0) (hc0 : l0.length ≤ c0) (h : sigillaw4_ScanBook.f k l0 = some r) (hL : LaidW w) :
    Calls Tryd.prog 3 #[.slice A0 l0.length c0] w fun e w' => e = .returned (.bool r) ∧ Below w.heap.size w w' := by
  have hp : l0.length ≤ 1048576 := by
    unfold sigillaw4_ScanBook.f at h
    by_cases hp : l0.length ≤ 1048576
    · exact hp
    · rw [if_neg hp] at h; cases h
  exact sigillaw4_ScanBook.calls k A0 c0 l0 r w hr0 hc0 h hL (fun t => by obtain ⟨k, r, h1, h2, _⟩ := tokens_total t; exact ⟨k, r, h1, h2⟩) same_total ⟨30, head_ok⟩
    (fun W hB hLW => owned_calls A0 c0 l0 W (Kd.C_below hr0 hB) hc0 hp hLW tokens_total same_total)
theorem book_true (l : List ByteArray) (h : l.length ≤ 1048576) : ∃ k, sigillaw4_ScanBook.f k l = some true := ⟨0, if_pos h⟩
end Go.Proofs.YtbpiahpkbapijaaDoor.A
end
section
namespace Go.Proofs.YtbpiahpkbapijaaDoor.Pure
open Go.Proofs.YtbpiahpkbapijaaDoor.A
theorem ScanBook (l : List ByteArray) (_hl : l.length ≤ 140737488355328) (_hs : ∀ s ∈ l, s.size ≤ 140737488355328) (hb : l.length ≤ 1048576) : ∃ k, sigillaw4_ScanBook.f k l = some true := book_true l hb
end Go.Proofs.YtbpiahpkbapijaaDoor.Pure
end
section
namespace Go.Proofs.YtbpiahpkbapijaaDoor.U
open Go.ChangeShapes Go.WideShapes Go.Proofs.YtbpiahpkbapijaaDoorW.PrintWords
theorem bulk_one {H : Type} : ∀ d : DataW H, 1 ≤ Rows.uptoBulk d
  | .lit (.string _) => by simp only [Rows.uptoBulk]; omega
  | .lit (.int _ _) => by simp [Rows.uptoBulk]
  | .lit (.bool _) => by simp [Rows.uptoBulk]
  | .lit _ => by unfold Rows.uptoBulk; split <;> omega
  | .nil => by simp [Rows.uptoBulk]
  | .ptr _ => by simp only [Rows.uptoBulk]; omega
  | .slice _ _ => by simp only [Rows.uptoBulk]; omega
  | .agg _ => by simp only [Rows.uptoBulk]; omega
  | .iface _ _ => by simp only [Rows.uptoBulk]; omega
  | .map _ => by simp only [Rows.uptoBulk]; omega
  | .held _ => by simp [Rows.uptoBulk]
theorem bulk_len {H : Type} : ∀ l : List (DataW H), l.length ≤ Rows.uptoBulkAll l
  | [] => by simp [Rows.uptoBulkAll]
  | d :: l => by
    have h1 := bulk_one d
    have h2 := bulk_len l
    simp only [Rows.uptoBulkAll, List.length_cons]
    omega
theorem open_strs_bulk {H : Type} {enc : TypeId × Value → H} {P : Program} {W : World} {base : Nat} {spare : Nat → Bool} {held : Bool} {t e : TypeId} {a : Option Addr} {len cap : Nat} {d : DataW H} {ps : List MemPlace} {ts : List TypeId} {ds : List (DataW H)} {j : Nat}
    (hsz : (DataW.weightsEach P ts ds).all (· ≤ reachBytes) = true) (ht : ts[j]? = some t) (hd : ds[j]? = some d) (hu : P.underlying t = some (.slice e)) (he : P.underlying e = some .string) (hc : P.cellsOf e = 1) {B : Nat} (hB : P.bytesOf e = B)
    (h : DataW.Trod enc P W base spare held t (.slice a len cap) d ps) :
    ∃ l : List ByteArray, l.length = len ∧ len ≤ cap ∧ (∀ s ∈ l, s.size ≤ 140737488351232) ∧ len * B ≤ 140737488351232 ∧ Kd.C Kd.string W a l.length l ∧ l.length ≤ Rows.uptoBulk d := by
  obtain ⟨fuel, hf⟩ := h
  rcases open_strings hu he hc hf with ⟨hcs, hx⟩ | ⟨x, l, c, zs, hcs, _, hl, hm, hz, hx, hcell, _⟩
  · simp [Value.cells] at hcs
    obtain ⟨rfl, rfl, rfl⟩ := hcs
    exact ⟨[], rfl, Nat.le_refl _, fun s hs => by simp at hs, by simp, Kd.C_of_reads (d := ByteArray.empty) ⟨rfl, by simp, fun h => by simp at h⟩, by simp⟩
  · simp [Value.cells] at hcs
    obtain ⟨rfl, rfl, rfl⟩ := hcs
    obtain ⟨hx, _⟩ := Prod.mk.inj hx
    subst hx
    have hl2 : len ≤ zs.length := by
      rw [hz]
      split
      · exact hl
      · exact Nat.le_refl _
    have hlen : (zs.take len).length = len := by rw [List.length_take]; omega
    have z := sized_slice hsz ht hd hu
    rw [hB] at z
    have h1 : (strs (H := H) (zs.take len)).length + (strs (H := H) (zs.drop len)).length = zs.length := by
      simp [strs]
      omega
    rw [h1] at z
    have hbulk : (zs.take len).length ≤ Rows.uptoBulk (DataW.slice (strs (H := H) (zs.take len)) (strs (zs.drop len))) := by
      have h4 := bulk_len (strs (H := H) (zs.take len))
      have h5 : (strs (H := H) (zs.take len)).length = (zs.take len).length := by simp [strs]
      simp only [Rows.uptoBulk]
      omega
    refine ⟨zs.take len, hlen, hl, ?_, Nat.le_trans (Nat.mul_le_mul_right _ hl2) z, ?_, hbulk⟩
    · intro s hs
      have hw : s.data.toList.length ∈ (DataW.slice (strs (H := H) (zs.take len)) (strs (zs.drop len))).weights P t := by
        simp only [DataW.weights, hu]
        refine List.mem_cons_of_mem _ (List.mem_append_left _ ?_)
        have key : ∀ (l : List ByteArray), s ∈ l → s.data.toList.length ∈ DataW.weightsAll P e (strs (H := H) l) := by
          intro l
          induction l with
          | nil => intro h; simp at h
          | cons y l ih =>
            intro h
            simp only [strs, List.map_cons, DataW.weightsAll, List.mem_append]
            rcases List.mem_cons.1 h with rfl | h
            · exact .inl (by simp [DataW.weights])
            · exact .inr (ih h)
        exact key _ hs
      have := List.all_eq_true.1 hsz _ (DataW.weights_mem_each ht hd _ hw)
      have h2 : s.data.toList.length ≤ reachBytes := by simpa using this
      rw [Array.length_toList] at h2
      exact h2
    · refine Kd.C_of_reads (d := ByteArray.empty) ⟨by rw [hlen], ?_, fun hn => ⟨x, rfl, fun i hi => ?_⟩⟩
      · rw [hlen]; simp only [maxLen] at hm; omega
      · rw [hlen] at hi
        rw [hcell i (by omega)]
        congr 2
        rw [List.getD_eq_getElem?_getD, List.getD_eq_getElem?_getD, List.getElem?_take, if_pos hi]
end Go.Proofs.YtbpiahpkbapijaaDoor.U
end
section
namespace Go.Proofs.YtbpiahpkbapijaaDoor.LaidOf
open Go.ChangeShapes Go.WideShapes Go.RowKit Go.Proofs.YtbpiahpkbapijaaDoor.A
set_option maxRecDepth 100000 in
theorem five {H : Type} {enc : TypeId × Value → H} {w : World} {base : Nat} {spare : Nat → Bool} {held : Bool} {fuel : Nat} {cs : List Value} {ps : List MemPlace} {a b c d e : Int}
    (h : DataW.trod enc Tryd.prog w base spare held fuel 85 cs = some ((.agg [.lit (.int .u8 a), .lit (.int .u8 b), .lit (.int .u8 c), .lit (.int .u8 d), .lit (.int .i64 e)] : DataW H), ps)) :
    cs = [.int .u8 a, .int .u8 b, .int .u8 c, .int .u8 d, .int .i64 e] := by
  obtain ⟨xs, n, _, hx, hl, hlen, hf⟩ := DataW.trod_struct Tryd.underlying85 h
  have hl5 : cs.length = 5 := hl.trans (by kernel_rfl)
  have hxs : xs.map (·.1) = [.lit (.int .u8 a), .lit (.int .u8 b), .lit (.int .u8 c), .lit (.int .u8 d), .lit (.int .i64 e)] := (DataW.agg.inj (Prod.mk.inj hx).1).symm
  have c5 : Tryd.prog.cellsOf 5 = 1 := by kernel_rfl
  have c3 : Tryd.prog.cellsOf 3 = 1 := by kernel_rfl
  clear h hl hx
  match cs, hl5, hf with
  | [v0, v1, v2, v3, v4], _, hf =>
    match xs, hlen, hxs, hf with
    | [y0, y1, y2, y3, y4], _, hxs, hf =>
      simp only [List.map_cons, List.map_nil, List.cons.injEq, and_true] at hxs
      obtain ⟨h0, h1, h2, h3, h4⟩ := hxs
      have g0 : DataW.trod enc Tryd.prog w base spare held n 5 (([v0, v1, v2, v3, v4].drop 0).take (Tryd.prog.cellsOf 5)) = some y0 := hf 0 _ rfl
      rw [c5] at g0
      replace g0 : DataW.trod enc Tryd.prog w base spare held n 5 [v0] = some y0 := g0
      have g1 : DataW.trod enc Tryd.prog w base spare held n 5 (([v0, v1, v2, v3, v4].drop 1).take (Tryd.prog.cellsOf 5)) = some y1 := hf 1 _ rfl
      rw [c5] at g1
      replace g1 : DataW.trod enc Tryd.prog w base spare held n 5 [v1] = some y1 := g1
      have g2 : DataW.trod enc Tryd.prog w base spare held n 5 (([v0, v1, v2, v3, v4].drop 2).take (Tryd.prog.cellsOf 5)) = some y2 := hf 2 _ rfl
      rw [c5] at g2
      replace g2 : DataW.trod enc Tryd.prog w base spare held n 5 [v2] = some y2 := g2
      have g3 : DataW.trod enc Tryd.prog w base spare held n 5 (([v0, v1, v2, v3, v4].drop 3).take (Tryd.prog.cellsOf 5)) = some y3 := hf 3 _ rfl
      rw [c5] at g3
      replace g3 : DataW.trod enc Tryd.prog w base spare held n 5 [v3] = some y3 := g3
      have g4 : DataW.trod enc Tryd.prog w base spare held n 3 (([v0, v1, v2, v3, v4].drop 4).take (Tryd.prog.cellsOf 3)) = some y4 := hf 4 _ rfl
      rw [c3] at g4
      replace g4 : DataW.trod enc Tryd.prog w base spare held n 3 [v4] = some y4 := g4
      obtain ⟨z0, e0, r0, _⟩ := DataW.trod_int Tryd.underlying5 g0
      obtain ⟨z1, e1, r1, _⟩ := DataW.trod_int Tryd.underlying5 g1
      obtain ⟨z2, e2, r2, _⟩ := DataW.trod_int Tryd.underlying5 g2
      obtain ⟨z3, e3, r3, _⟩ := DataW.trod_int Tryd.underlying5 g3
      obtain ⟨z4, e4, r4, _⟩ := DataW.trod_int Tryd.underlying3 g4
      rw [r0] at h0; rw [r1] at h1; rw [r2] at h2; rw [r3] at h3; rw [r4] at h4
      simp only [DataW.lit.injEq, Lit.int.injEq, true_and] at h0 h1 h2 h3 h4
      subst h0 h1 h2 h3 h4
      simp only [List.cons.injEq, and_true] at e0 e1 e2 e3 e4
      rw [e0, e1, e2, e3, e4]
theorem chunks_eq {α : Type} (l r : List α) (hl : l.length = 45) (hr : r.length = 45) (h : ∀ i, i < 9 → (l.drop (i * 5)).take 5 = (r.drop (i * 5)).take 5) : l = r := by
  apply List.ext_getElem?
  intro j
  by_cases hj : j < 45
  · have := congrArg (fun x => x[j % 5]?) (h (j / 5) (by omega))
    simp only [List.getElem?_take, List.getElem?_drop] at this
    rw [if_pos (by omega), if_pos (by omega), show j / 5 * 5 + j % 5 = j by omega] at this
    exact this
  · rw [List.getElem?_eq_none (by omega), List.getElem?_eq_none (by omega)]
set_option maxRecDepth 100000 in
theorem laid_block {W : World} (h : laidMetH Tryd.prog [("sigil/wire.rows", Rows.laid_sigil_wire_rows)] W) : ∃ t fr, W.heap[0]? = some (.cells RowCells t fr) := by
  rw [MakeChecks.laidMetH_plain _ _ _ (by kernel_rfl)] at h
  obtain ⟨ps, ⟨g, t, cs, fuel, p, q, hg, ht, hv, hd, _, _⟩, _, _⟩ := h
  obtain rfl := Option.some.inj ((show Tryd.prog.globalNamed "sigil/wire.rows" = some 0 by kernel_rfl).symm.trans hg)
  obtain rfl := Option.some.inj ((show (Tryd.prog.globals[0]?).map (·.type) = some 86 by kernel_rfl).symm.trans ht)
  obtain ⟨xs, m, _, ex, hl, hn, hel⟩ := DataW.trod_array Tryd.underlying86 hd
  have hlc : cs.toList.length = 45 := hl.trans (by kernel_rfl)
  have hxs := (DataW.agg.inj (Prod.mk.inj ex).1).symm
  have c85 : Tryd.prog.cellsOf 85 = 5 := by kernel_rfl
  have row : ∀ i, i < 9 → ∀ a b c d e, (xs.map (·.1))[i]? = some (.agg [.lit (.int .u8 a), .lit (.int .u8 b), .lit (.int .u8 c), .lit (.int .u8 d), .lit (.int .i64 e)]) → (cs.toList.drop (i * 5)).take 5 = [.int .u8 a, .int .u8 b, .int .u8 c, .int .u8 d, .int .i64 e] := by
    intro i hi a b c d e hx
    have hE := hel i hi
    rw [c85] at hE
    rw [List.getElem?_map] at hx
    obtain ⟨y, hy, hy2⟩ := Option.map_eq_some_iff.1 hx
    rw [hy] at hE
    obtain ⟨y1, y2⟩ := y
    subst hy2
    exact five hE
  have hcs : cs.toList = RowCells.toList := by
    refine chunks_eq _ _ hlc (by kernel_rfl) (fun i hi => ?_)
    match i, hi with
    | 0, _ => exact row 0 (by omega) _ _ _ _ _ (by rw [hxs]; rfl)
    | 1, _ => exact row 1 (by omega) _ _ _ _ _ (by rw [hxs]; rfl)
    | 2, _ => exact row 2 (by omega) _ _ _ _ _ (by rw [hxs]; rfl)
    | 3, _ => exact row 3 (by omega) _ _ _ _ _ (by rw [hxs]; rfl)
    | 4, _ => exact row 4 (by omega) _ _ _ _ _ (by rw [hxs]; rfl)
    | 5, _ => exact row 5 (by omega) _ _ _ _ _ (by rw [hxs]; rfl)
    | 6, _ => exact row 6 (by omega) _ _ _ _ _ (by rw [hxs]; rfl)
    | 7, _ => exact row 7 (by omega) _ _ _ _ _ (by rw [hxs]; rfl)
    | 8, _ => exact row 8 (by omega) _ _ _ _ _ (by rw [hxs]; rfl)
  have hcs' : cs = RowCells := by
    have := congrArg List.toArray hcs
    simpa using this
  unfold World.var? at hv
  rw [hg] at hv
  simp only [Option.bind_some] at hv
  cases hb : W.heap[0]? with
  | none => rw [hb] at hv; cases hv
  | some o =>
    rw [hb] at hv
    cases o with
    | cells c t fr =>
      simp only [Option.some.injEq] at hv
      rw [hv, hcs']
      exact ⟨t, fr, rfl⟩
    | _ => cases hv
end Go.Proofs.YtbpiahpkbapijaaDoor.LaidOf
end
