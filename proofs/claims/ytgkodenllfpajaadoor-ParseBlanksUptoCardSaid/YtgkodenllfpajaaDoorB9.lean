/- For every input of bulk at most 1048576 the law ParseBlanks (a text with a blank more behind every token is parsed as the same declarations, or with the same error at the same token) returns true and leaves its argument as it was; its card ties the table wire.rows to the program's text. No other condition. -/
import Derived.Test.YtgkodenllfpajaaDoorB8
import Derived.Test.YtgkodenllfpajaaDoorB4
import Derived.SizedLaws
import Derived.SliceStrings
import Derived.ChangeSlices
import Derived.Test.YtgkodenllfpajaaDoorRows
import Derived.OpenShut
import Derived.ChangeArms
import Derived.LaidMore
import Derived.Deep.DeepHandedRow
import Derived.Lib.LaidTab
import Derived.Test.YtgkodenllfpajaaDoorCards
import Derived.Test.YtgkodenllfpajaaDoorTie
import Derived.WalkKit
import Derived.ProofKit
import Derived.ShutString
import Derived.ChangeOld
import Derived.Below
import Derived.Carry
section
namespace Go.Proofs.YtgkodenllfpajaaDoor.Pure
open Go.Proofs.YtgkodenllfpajaaDoor.A
theorem ParseBlanks (s : ByteArray) (_hs : s.size ≤ 140737488351232) (_hb : s.size ≤ 1048576) : ∃ k, sigillaw5_ParseBlanks.f k s = some true := Rex.ParseBlanks s
end Go.Proofs.YtgkodenllfpajaaDoor.Pure
end
section
namespace Go.Proofs.YtgkodenllfpajaaDoor.LaidOf
open Go.ChangeShapes Go.WideShapes Go.RowKit Go.Proofs.YtgkodenllfpajaaDoor.A
set_option maxRecDepth 100000 in
theorem five {H : Type} {enc : TypeId × Value → H} {w : World} {base : Nat} {spare : Nat → Bool} {held : Bool} {fuel : Nat} {cs : List Value} {ps : List MemPlace} {a b c d e : Int}
  (h : DataW.trod enc Tryd.prog w base spare held fuel 107 cs = some ((.agg [.lit (.int .u8 a), .lit (.int .u8 b), .lit (.int .u8 c), .lit (.int .u8 d), .lit (.int .i64 e)] : DataW H), ps)) :
  cs = [.int .u8 a, .int .u8 b, .int .u8 c, .int .u8 d, .int .i64 e] := by
 obtain ⟨xs, n, _, hx, hl, hlen, hf⟩ := DataW.trod_struct Tryd.underlying107 h
 have hl5 : cs.length = 5 := hl.trans (by kernel_rfl)
 have hxs : xs.map (·.1) = [.lit (.int .u8 a), .lit (.int .u8 b), .lit (.int .u8 c), .lit (.int .u8 d), .lit (.int .i64 e)] := (DataW.agg.inj (Prod.mk.inj hx).1).symm
 have c5 : Tryd.prog.cellsOf 5 = 1 := by kernel_rfl
 have c3 : Tryd.prog.cellsOf 3 = 1 := by kernel_rfl
 clear h hl hx
 match cs, hl5, hf with
 | [v0, v1, v2, v3, v4], _, hf =>
  match xs, hlen, hxs, hf with
  | [y0, y1, y2, y3, y4], _, hxs, hf =>
   simp only [List.map_cons, List.map_nil, List.cons.injEq, and_true] at hxs
   obtain ⟨h0, h1, h2, h3, h4⟩ := hxs
   have g0 : DataW.trod enc Tryd.prog w base spare held n 5 (([v0, v1, v2, v3, v4].drop 0).take (Tryd.prog.cellsOf 5)) = some y0 := hf 0 _ rfl
   rw [c5] at g0
   replace g0 : DataW.trod enc Tryd.prog w base spare held n 5 [v0] = some y0 := g0
   have g1 : DataW.trod enc Tryd.prog w base spare held n 5 (([v0, v1, v2, v3, v4].drop 1).take (Tryd.prog.cellsOf 5)) = some y1 := hf 1 _ rfl
   rw [c5] at g1
   replace g1 : DataW.trod enc Tryd.prog w base spare held n 5 [v1] = some y1 := g1
   have g2 : DataW.trod enc Tryd.prog w base spare held n 5 (([v0, v1, v2, v3, v4].drop 2).take (Tryd.prog.cellsOf 5)) = some y2 := hf 2 _ rfl
   rw [c5] at g2
   replace g2 : DataW.trod enc Tryd.prog w base spare held n 5 [v2] = some y2 := g2
   have g3 : DataW.trod enc Tryd.prog w base spare held n 5 (([v0, v1, v2, v3, v4].drop 3).take (Tryd.prog.cellsOf 5)) = some y3 := hf 3 _ rfl
   rw [c5] at g3
   replace g3 : DataW.trod enc Tryd.prog w base spare held n 5 [v3] = some y3 := g3
   have g4 : DataW.trod enc Tryd.prog w base spare held n 3 (([v0, v1, v2, v3, v4].drop 4).take (Tryd.prog.cellsOf 3)) = some y4 := hf 4 _ rfl
   rw [c3] at g4
   replace g4 : DataW.trod enc Tryd.prog w base spare held n 3 [v4] = some y4 := g4
   obtain ⟨z0, e0, r0, _⟩ := DataW.trod_int Tryd.underlying5 g0
   obtain ⟨z1, e1, r1, _⟩ := DataW.trod_int Tryd.underlying5 g1
   obtain ⟨z2, e2, r2, _⟩ := DataW.trod_int Tryd.underlying5 g2
   obtain ⟨z3, e3, r3, _⟩ := DataW.trod_int Tryd.underlying5 g3
   obtain ⟨z4, e4, r4, _⟩ := DataW.trod_int Tryd.underlying3 g4
   rw [r0] at h0; rw [r1] at h1; rw [r2] at h2; rw [r3] at h3; rw [r4] at h4
   simp only [DataW.lit.injEq, Lit.int.injEq, true_and] at h0 h1 h2 h3 h4
   subst h0 h1 h2 h3 h4
   simp only [List.cons.injEq, and_true] at e0 e1 e2 e3 e4
   rw [e0, e1, e2, e3, e4]
theorem chunks_eq {α : Type} (l r : List α) (hl : l.length = 45) (hr : r.length = 45) (h : ∀ i, i < 9 → (l.drop (i * 5)).take 5 = (r.drop (i * 5)).take 5) : l = r := by
 apply List.ext_getElem?
 intro j
 by_cases hj : j < 45
 ·have := congrArg (fun x => x[j % 5]?) (h (j / 5) (by omega))
  simp only [List.getElem?_take, List.getElem?_drop] at this
  rw [if_pos (by omega), if_pos (by omega), show j / 5 * 5 + j % 5 = j by omega] at this
  exact this
 ·rw [List.getElem?_eq_none (by omega), List.getElem?_eq_none (by omega)]
set_option maxRecDepth 100000 in
theorem laid_block {W : World} (h : laidMetH Tryd.prog [("sigil/wire.rows", Rows.laid_sigil_wire_rows)] W) : ∃ t fr, W.heap[0]? = some (.cells RowCells t fr) := by
 rw [MakeChecks.laidMetH_plain _ _ _ (by kernel_rfl)] at h
 obtain ⟨ps, ⟨g, t, cs, fuel, p, q, hg, ht, hv, hd, _, _⟩, _, _⟩ := h
 obtain rfl := Option.some.inj ((show Tryd.prog.globalNamed "sigil/wire.rows" = some 0 by kernel_rfl).symm.trans hg)
 obtain rfl := Option.some.inj ((show (Tryd.prog.globals[0]?).map (·.type) = some 108 by kernel_rfl).symm.trans ht)
 obtain ⟨xs, m, _, ex, hl, hn, hel⟩ := DataW.trod_array Tryd.underlying108 hd
 have hlc : cs.toList.length = 45 := hl.trans (by kernel_rfl)
 have hxs := (DataW.agg.inj (Prod.mk.inj ex).1).symm
 have c107 : Tryd.prog.cellsOf 107 = 5 := by kernel_rfl
 have row : ∀ i, i < 9 → ∀ a b c d e, (xs.map (·.1))[i]? = some (.agg [.lit (.int .u8 a), .lit (.int .u8 b), .lit (.int .u8 c), .lit (.int .u8 d), .lit (.int .i64 e)]) → (cs.toList.drop (i * 5)).take 5 = [.int .u8 a, .int .u8 b, .int .u8 c, .int .u8 d, .int .i64 e] := by
  intro i hi a b c d e hx
  have hE := hel i hi
  rw [c107] at hE
  rw [List.getElem?_map] at hx
  obtain ⟨y, hy, hy2⟩ := Option.map_eq_some_iff.1 hx
  rw [hy] at hE
  obtain ⟨y1, y2⟩ := y
  subst hy2
  exact five hE
 have hcs : cs.toList = RowCells.toList := by
  refine chunks_eq _ _ hlc (by kernel_rfl) (fun i hi => ?_)
  match i, hi with
  | 0, _ => exact row 0 (by omega) _ _ _ _ _ (by rw [hxs]; rfl)
  | 1, _ => exact row 1 (by omega) _ _ _ _ _ (by rw [hxs]; rfl)
  | 2, _ => exact row 2 (by omega) _ _ _ _ _ (by rw [hxs]; rfl)
  | 3, _ => exact row 3 (by omega) _ _ _ _ _ (by rw [hxs]; rfl)
  | 4, _ => exact row 4 (by omega) _ _ _ _ _ (by rw [hxs]; rfl)
  | 5, _ => exact row 5 (by omega) _ _ _ _ _ (by rw [hxs]; rfl)
  | 6, _ => exact row 6 (by omega) _ _ _ _ _ (by rw [hxs]; rfl)
  | 7, _ => exact row 7 (by omega) _ _ _ _ _ (by rw [hxs]; rfl)
  | 8, _ => exact row 8 (by omega) _ _ _ _ _ (by rw [hxs]; rfl)
 have hcs' : cs = RowCells := by
  have := congrArg List.toArray hcs
  simpa using this
 unfold World.var? at hv
 rw [hg] at hv
 simp only [Option.bind_some] at hv
 cases hb : W.heap[0]? with
 | none => rw [hb] at hv; cases hv
 | some o =>
  rw [hb] at hv
  cases o with
  | cells c t fr =>
   simp only [Option.some.injEq] at hv
   rw [hv, hcs']
   exact ⟨t, fr, rfl⟩
  | _ => cases hv
end Go.Proofs.YtgkodenllfpajaaDoor.LaidOf
end
section
namespace Go.Proofs.YtgkodenllfpajaaDoor.parseBlanks
open Go.ChangeShapes Go.WideShapes Go.ChangeAt Go.RowKit Go.Proofs.YtgkodenllfpajaaDoorW.PrintWords
open Go.ChangeMaps (open_string shut_string)
theorem own : ownKnob Tryd.prog.godebug = none := by kernel_rfl
set_option linter.unusedSimpArgs false
set_option maxRecDepth 100000 in
theorem contract (H : Type) (enc : TypeId × Value → H) (W : World) (base : Nat) (args : Array Value) (ds gs : List (DataW H)) (before : List MemPlace)
  (hval0 : ∀ (j : Nat) t v, Tryd.f5.params[j]? = some t → args[j]? = some v → Value.okWide Tryd.prog W .any base t v)
  (hW : DataW.Whole enc Tryd.prog Tryd.f5.params.toList Rows.parseBlanksSpec.vars false W args.toList ds gs before)
  (hbulk : Rows.uptoBulkAll (ds ++ gs) ≤ 1048576)
  (hsz0 : (DataW.weightsEach Tryd.prog (Tryd.f5.params.toList ++ Rows.parseBlanksSpec.plain.varTypes Tryd.prog) (ds ++ gs)).all (· ≤ reachBytes) = true)
  (hL0 : laidMetH Tryd.prog Rows.parseBlanksUptoRow.laid W) (hsh : W.ShapedOpen Tryd.prog) :
  Calls Tryd.prog 5 args W fun e W' => ∃ v, e = .returned v ∧ Rows.parseBlanksSpec.post enc Tryd.prog Tryd.f5 false true false false W args v W' := by
 have hsz : (DataW.weightsEach Tryd.prog (Tryd.f5.params.toList ++ Rows.parseBlanksSpec.plain.varTypes Tryd.prog) (ds ++ gs)).all (· ≤ reachBytes) = true := hsz0
 have hval : ∀ (j : Nat) t v, Tryd.f5.params[j]? = some t → args[j]? = some v → Value.okWide Tryd.prog W .any base t v := hval0
 have hL : A.LaidW W := ⟨LaidOf.laid_block hL0, Tryd.laysM143.s1_3 W hsh⟩
 have hW' := hW
 obtain ⟨p, q, hA0, hV, rfl, hfz, hnd⟩ := hW
 have hA : DataW.TrodAll enc Tryd.prog W 0 (fun _ => true) true Tryd.f5.params.toList args.toList ds p := hA0
 rw [Tryd.params5] at hA hval hsz
 obtain ⟨v0, vs0, d0, ds0, p0, q0, hargs, rfl, rfl, h0, r0⟩ := trodAll_cons hA
 obtain ⟨rfl, rfl, rfl⟩ := trodAll_nil r0
 obtain rfl : args = #[v0] := by cases args; simp_all
 obtain ⟨rfl, rfl⟩ := trodVars_none hV
 obtain ⟨a0, rfl, rfl, rfl, y0⟩ := open_string Tryd.underlying9 (hval 0 9 v0 rfl rfl) h0
 have w0 : a0.size ≤ 140737488351232 := by
  have z := sized_string hsz (j := 0) (t := 9) rfl rfl
  rw [Array.length_toList] at z
  exact z
 have hbk : a0.size ≤ 1048576 := by
  have h := hbulk
  simp only [Rows.uptoBulkAll, Rows.uptoBulk, List.append_nil, Array.length_toList] at h
  have e : a0.data.size = a0.size := rfl; omega
 clear hA0 hval0 hsz0 hsz
 obtain ⟨k, hk⟩ := Pure.ParseBlanks a0 (by omega) hbk
 refine (A.sigillaw5_ParseBlanks.calls k a0 true W  hk hL).mono fun e W' ⟨he, bel0⟩ => ?_
 have bel : Below W.heap.size W W' := bel0
 subst he
 exact ⟨_, rfl, _, _, _, [], _, [], hW', trodAll_mk1 (shut_bool Tryd.underlying4 _), (trodAll_cons_mk (shut_string Tryd.underlying9 y0) trodAll_mk0), rfl, bel.frame _, fun h => by cases h⟩
noncomputable def laidWorld (os : Os) : World :=
 { World.holding Tryd.prog os ⟨#[], #[], []⟩ with heap := (World.holding Tryd.prog os ⟨#[], #[], []⟩).heap.modify 0 fun
   | .cells _ t frozen => .cells A.RowCells t frozen
   | o => o }
theorem laid_met (os : Os) : laidMet Tryd.prog Rows.parseBlanksUptoRow.laid ((laidWorld os).forCall (fun _ _ => 0) ⟨#[], #[.string ByteArray.empty], []⟩).memory :=
 laidMet_of_run' 8 (by kernel_rfl) (by kernel_rfl)
theorem reads (os : Os) {H : Type} (enc : TypeId × Value → H) : ∃ places, DataW.whole enc Tryd.prog ((laidWorld os).forCall (fun _ _ => 0) ⟨#[], #[.string ByteArray.empty], []⟩).memory Tryd.f5.params.toList Rows.parseBlanksSpec.vars false (#[.string ByteArray.empty] : Array Value).toList 8 = some ([.lit (.string [])], [], places) :=
 ⟨[], by kernel_rfl⟩
set_option maxRecDepth 100000 in
theorem lifted (os : Os) (started : os.Started) (H : Type) (enc : TypeId × Value → H) (F : Stop.Interp) :
  ReturnsInHanded {} Tryd.checked os 5 .any ((Rows.OpenSpec.upto Rows.parseBlanksSpec).preRow enc Tryd.prog Tryd.f5 Rows.parseBlanksUptoRow.domain false Rows.parseBlanksUptoRow.laid) (((Rows.OpenSpec.upto Rows.parseBlanksSpec).at F).post enc Tryd.prog Tryd.f5 false true false false) := by
 obtain ⟨places, hx⟩ := reads os enc
 refine returnsInHanded_of_row (C := Tryd.checked) (s := Rows.OpenSpec.upto Rows.parseBlanksSpec) own started (by kernel_rfl) Tryd.func5
  (witness_row_at (enc := enc) (C := Tryd.checked) false (laidWorld os) #[.string ByteArray.empty] rfl (by kernel_rfl) (by kernel_rfl) (by kernel_rfl)
   (OpenSpec.preRow_of_cond 8 hx (by kernel_rfl) (fun k hk => by cases hk; kernel_rfl) (by kernel_rfl) (laid_met os))) ?_
 intro W base args ds gs before hval hW _ hcond hsz hL hsh _
 exact contract H enc W base args ds gs before hval hW (of_decide_eq_true (hcond _ rfl)) hsz hL hsh
theorem said : Rows.ParseBlanksUptoSaid :=
 OpenClaim.holds_of_cond 5 Tryd.f5 rfl rfl rfl rfl rfl rfl rfl ⟨rfl, rfl, rfl, rfl, rfl⟩ rfl rfl rfl rfl rfl (by kernel_rfl) Tryd.func5 (by kernel_rfl)
  (of_decide_eq_true (by kernel_rfl)) (by unfold Func.isWrapper; first | (rw [if_pos (by decide +kernel)]; kernel_rfl) | (rw [if_neg (by decide +kernel)]; exact ⟨rfl, rfl⟩))
  (fun os started H enc _ F => by rw [OpenClaim.pre_eq_preRow]; exact lifted os started H enc F)
set_option maxRecDepth 100000 in
theorem plain (f : FuncId) (fn : Func) (hf : Tryd.pinned.checked.prog.funcNamed "sigil/sigillaw5.ParseBlanks" = some f) (hfn : Tryd.pinned.checked.prog.funcs[f]? = some fn) :
  true = Tryd.pinned.checked.prog.looks [] ∧ ∀ (j : Nat) t, fn.params[j]? = some t → Tryd.pinned.checked.prog.wantsStandIn t = false := by
 obtain rfl : f = 5 := Option.some.inj ((show Tryd.prog.funcNamed "sigil/sigillaw5.ParseBlanks" = some 5 by kernel_rfl).symm.trans hf) |>.symm
 obtain rfl : fn = Tryd.f5 := (Option.some.inj (Tryd.func5.symm.trans hfn)).symm
 refine ⟨by kernel_rfl, fun j t ht => ?_⟩
 rw [Tryd.params5] at ht
 have ht' := Array.mem_of_getElem? ht
 simp only [List.mem_toArray, List.mem_cons, List.not_mem_nil, or_false] at ht'
 subst ht'
 exact (show Tryd.prog.wantsStandIn 9 = false by kernel_rfl)
theorem card : Rows.ParseBlanksUptoCardSaid :=
 Claim7.holds_tied_plain_at .later [] _ _ _ _ said (fun _ h => by cases h) (by kernel_rfl) (fun _ h => by cases h) parseBlanksUpto_row_tie rfl ⟨rfl, rfl⟩ (by kernel_rfl) rfl plain (by kernel_rfl)
end Go.Proofs.YtgkodenllfpajaaDoor.parseBlanks
namespace Go.Proofs.YtgkodenllfpajaaDoor
theorem parseBlanksUpto_card : Rows.ParseBlanksUptoCardSaid := parseBlanks.card
end Go.Proofs.YtgkodenllfpajaaDoor
end
