/- What the rows' list gives: in a world whose variable wire.rows reads as the program's text lays it, block 0 holds the table's 45 cells. -/
import Derived.Test.YtabgnbbljjohdaaRDoorRows
import Derived.Test.YtabgnbbljjohdaaRDoorAx0
import Derived.OpenShut
import Derived.ChangeArms
import Derived.LaidMore
import Derived.Deep.DeepHandedRow
import Derived.Lib.LaidTab
namespace Go.Proofs.YtabgnbbljjohdaaRDoor.LaidOf
open Go.ChangeShapes Go.WideShapes Go.RowKit Go.Proofs.YtabgnbbljjohdaaRDoor.A

set_option maxRecDepth 100000 in
theorem five {H : Type} {enc : TypeId × Value → H} {w : World} {base : Nat} {spare : Nat → Bool} {held : Bool} {fuel : Nat} {cs : List Value} {ps : List MemPlace} {a b c d e : Int}
    (h : DataW.trod enc Tryd.prog w base spare held fuel 116 cs = some ((.agg [.lit (.int .u8 a), .lit (.int .u8 b), .lit (.int .u8 c), .lit (.int .u8 d), .lit (.int .i64 e)] : DataW H), ps)) :
    cs = [.int .u8 a, .int .u8 b, .int .u8 c, .int .u8 d, .int .i64 e] := by
  obtain ⟨xs, n, _, hx, hl, hlen, hf⟩ := DataW.trod_struct Tryd.underlying116 h
  have hl5 : cs.length = 5 := hl.trans (by kernel_rfl)
  have hxs : xs.map (·.1) = [.lit (.int .u8 a), .lit (.int .u8 b), .lit (.int .u8 c), .lit (.int .u8 d), .lit (.int .i64 e)] := (DataW.agg.inj (Prod.mk.inj hx).1).symm
  have c5 : Tryd.prog.cellsOf 5 = 1 := by kernel_rfl
  have c3 : Tryd.prog.cellsOf 3 = 1 := by kernel_rfl
  clear h hl hx
  match cs, hl5, hf with
  | [v0, v1, v2, v3, v4], _, hf =>
    match xs, hlen, hxs, hf with
    | [y0, y1, y2, y3, y4], _, hxs, hf =>
      simp only [List.map_cons, List.map_nil, List.cons.injEq, and_true] at hxs
      obtain ⟨h0, h1, h2, h3, h4⟩ := hxs
      have g0 : DataW.trod enc Tryd.prog w base spare held n 5 (([v0, v1, v2, v3, v4].drop 0).take (Tryd.prog.cellsOf 5)) = some y0 := hf 0 _ rfl
      rw [c5] at g0
      replace g0 : DataW.trod enc Tryd.prog w base spare held n 5 [v0] = some y0 := g0
      have g1 : DataW.trod enc Tryd.prog w base spare held n 5 (([v0, v1, v2, v3, v4].drop 1).take (Tryd.prog.cellsOf 5)) = some y1 := hf 1 _ rfl
      rw [c5] at g1
      replace g1 : DataW.trod enc Tryd.prog w base spare held n 5 [v1] = some y1 := g1
      have g2 : DataW.trod enc Tryd.prog w base spare held n 5 (([v0, v1, v2, v3, v4].drop 2).take (Tryd.prog.cellsOf 5)) = some y2 := hf 2 _ rfl
      rw [c5] at g2
      replace g2 : DataW.trod enc Tryd.prog w base spare held n 5 [v2] = some y2 := g2
      have g3 : DataW.trod enc Tryd.prog w base spare held n 5 (([v0, v1, v2, v3, v4].drop 3).take (Tryd.prog.cellsOf 5)) = some y3 := hf 3 _ rfl
      rw [c5] at g3
      replace g3 : DataW.trod enc Tryd.prog w base spare held n 5 [v3] = some y3 := g3
      have g4 : DataW.trod enc Tryd.prog w base spare held n 3 (([v0, v1, v2, v3, v4].drop 4).take (Tryd.prog.cellsOf 3)) = some y4 := hf 4 _ rfl
      rw [c3] at g4
      replace g4 : DataW.trod enc Tryd.prog w base spare held n 3 [v4] = some y4 := g4
      obtain ⟨z0, e0, r0, _⟩ := DataW.trod_int Tryd.underlying5 g0
      obtain ⟨z1, e1, r1, _⟩ := DataW.trod_int Tryd.underlying5 g1
      obtain ⟨z2, e2, r2, _⟩ := DataW.trod_int Tryd.underlying5 g2
      obtain ⟨z3, e3, r3, _⟩ := DataW.trod_int Tryd.underlying5 g3
      obtain ⟨z4, e4, r4, _⟩ := DataW.trod_int Tryd.underlying3 g4
      rw [r0] at h0; rw [r1] at h1; rw [r2] at h2; rw [r3] at h3; rw [r4] at h4
      simp only [DataW.lit.injEq, Lit.int.injEq, true_and] at h0 h1 h2 h3 h4
      subst h0 h1 h2 h3 h4
      simp only [List.cons.injEq, and_true] at e0 e1 e2 e3 e4
      rw [e0, e1, e2, e3, e4]

theorem chunks_eq {α : Type} (l r : List α) (hl : l.length = 45) (hr : r.length = 45) (h : ∀ i, i < 9 → (l.drop (i * 5)).take 5 = (r.drop (i * 5)).take 5) : l = r := by
  apply List.ext_getElem?
  intro j
  by_cases hj : j < 45
  · have := congrArg (fun x => x[j % 5]?) (h (j / 5) (by omega))
    simp only [List.getElem?_take, List.getElem?_drop] at this
    rw [if_pos (by omega), if_pos (by omega), show j / 5 * 5 + j % 5 = j by omega] at this
    exact this
  · rw [List.getElem?_eq_none (by omega), List.getElem?_eq_none (by omega)]

set_option maxRecDepth 100000 in
theorem laid_block {W : World} (h : laidMetH Tryd.prog [("sigil/wire.rows", Rows.laid_sigil_wire_rows)] W) : ∃ t fr, W.heap[0]? = some (.cells RowCells t fr) := by
  rw [MakeChecks.laidMetH_plain _ _ _ (by kernel_rfl)] at h
  obtain ⟨ps, ⟨g, t, cs, fuel, p, q, hg, ht, hv, hd, _, _⟩, _, _⟩ := h
  obtain rfl := Option.some.inj ((show Tryd.prog.globalNamed "sigil/wire.rows" = some 0 by kernel_rfl).symm.trans hg)
  obtain rfl := Option.some.inj ((show (Tryd.prog.globals[0]?).map (·.type) = some 117 by kernel_rfl).symm.trans ht)
  obtain ⟨xs, m, _, ex, hl, hn, hel⟩ := DataW.trod_array Tryd.underlying117 hd
  have hlc : cs.toList.length = 45 := hl.trans (by kernel_rfl)
  have hxs := (DataW.agg.inj (Prod.mk.inj ex).1).symm
  have c116 : Tryd.prog.cellsOf 116 = 5 := by kernel_rfl
  have row : ∀ i, i < 9 → ∀ a b c d e, (xs.map (·.1))[i]? = some (.agg [.lit (.int .u8 a), .lit (.int .u8 b), .lit (.int .u8 c), .lit (.int .u8 d), .lit (.int .i64 e)]) → (cs.toList.drop (i * 5)).take 5 = [.int .u8 a, .int .u8 b, .int .u8 c, .int .u8 d, .int .i64 e] := by
    intro i hi a b c d e hx
    have hE := hel i hi
    rw [c116] at hE
    rw [List.getElem?_map] at hx
    obtain ⟨y, hy, hy2⟩ := Option.map_eq_some_iff.1 hx
    rw [hy] at hE
    obtain ⟨y1, y2⟩ := y
    subst hy2
    exact five hE
  have hcs : cs.toList = RowCells.toList := by
    refine chunks_eq _ _ hlc (by kernel_rfl) (fun i hi => ?_)
    match i, hi with
    | 0, _ => exact row 0 (by omega) _ _ _ _ _ (by rw [hxs]; rfl)
    | 1, _ => exact row 1 (by omega) _ _ _ _ _ (by rw [hxs]; rfl)
    | 2, _ => exact row 2 (by omega) _ _ _ _ _ (by rw [hxs]; rfl)
    | 3, _ => exact row 3 (by omega) _ _ _ _ _ (by rw [hxs]; rfl)
    | 4, _ => exact row 4 (by omega) _ _ _ _ _ (by rw [hxs]; rfl)
    | 5, _ => exact row 5 (by omega) _ _ _ _ _ (by rw [hxs]; rfl)
    | 6, _ => exact row 6 (by omega) _ _ _ _ _ (by rw [hxs]; rfl)
    | 7, _ => exact row 7 (by omega) _ _ _ _ _ (by rw [hxs]; rfl)
    | 8, _ => exact row 8 (by omega) _ _ _ _ _ (by rw [hxs]; rfl)
  have hcs' : cs = RowCells := by
    have := congrArg List.toArray hcs
    simpa using this
  unfold World.var? at hv
  rw [hg] at hv
  simp only [Option.bind_some] at hv
  cases hb : W.heap[0]? with
  | none => rw [hb] at hv; cases hv
  | some o =>
    rw [hb] at hv
    cases o with
    | cells c t fr =>
      simp only [Option.some.injEq] at hv
      rw [hv, hcs']
      exact ⟨t, fr, rfl⟩
    | _ => cases hv
end Go.Proofs.YtabgnbbljjohdaaRDoor.LaidOf
