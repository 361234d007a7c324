/- Lemmas and walks for the claim; no condition beyond what each states. -/
import Derived.Test.YtbpiahpkbapijaaDoorQ1
import Derived.Test.YtbpiahpkbapijaaDoorQ2
import Derived.Test.YtbpiahpkbapijaaDoorProg
import Derived.Below
import Derived.Deep.Draws
import Derived.Deep.AppendLies
import Derived.Maps.AppendAt
import Derived.OwnWalk
import Derived.Laws.BytesArg
import Derived.Laws.MakeOwn
import Derived.Laws.OwnMore
import Derived.Deep.OwnRows
import Derived.Tactics
import Derived.Lib.ConvBytes
import Derived.Laws.Slices
import Derived.WalkKit
import Derived.KernelRfl
import Derived.RowKit3
import Derived.Deep.LoopGhost
import Derived.Deep.QuietTactic
import Derived.BigQuiet
import Derived.WideLaws
import Derived.Deep.DeepCutAuto
import Derived.Deep.CutBlock
import Derived.Deep.RegionHeld3
import Derived.Laws.Rows
import Derived.Lib.AppendStr
import Derived.ArgAppend
import Derived.Laws.IdiomCopy
import Derived.OrdersHeld
import Derived.Laws.BitsLemmas
import Derived.RowKit
import Derived.Deep.RegionWith
import Derived.WalkMore
import Derived.Laws.EntriesVeiled
import Derived.Deep.RegionLaw
section
namespace Go.Proofs.YtbpiahpkbapijaaDoor.J
open Go.RowKit Go.Proofs.YtbpiahpkbapijaaDoorW.PrintWords Go.Proofs.YtbpiahpkbapijaaDoorW.PrintLast Go.Proofs.YtbpiahpkbapijaaDoorW.PrintMore
attribute [local go_sem] max2_int min2_int max_two min_two max_three min_three max_four min_four
set_option linter.unusedVariables false
set_option linter.unusedSimpArgs false
def errW : Option Int → Value
 | none => .nilIface
 | some c => .iface 0 (.int .i64 c)
theorem errW_none : errW none = .nilIface := rfl
theorem errW_some (c : Int) : errW (some c) = .iface 0 (.int .i64 c) := rfl
theorem info5 : (Tryd.prog.info? 5).map (fun i => (i.zero, i.size, i.bytes)) = some (some (.int .u8 0), 1, 1) := by kernel_rfl
structure S67 where
 f0 : Int
 f1 : Int
 f2 : Int
 f3 : ByteArray
 f4 : (List S67)
 f5 : (List S67)
def z67 : S67 := ⟨(0 : Int), (0 : Int), (0 : Int), (⟨#[]⟩ : ByteArray), ([] : List S67), ([] : List S67)⟩
def F67 (d : Kd S67) : Kd S67 := Kd.iso (Kd.pair (Kd.int .i64) (Kd.pair (Kd.int .i64) (Kd.pair (Kd.int .i64) (Kd.pair Kd.string (Kd.pair (Kd.slice 67 d) (Kd.slice 67 d)))))) (fun x : S67 => (x.f0, x.f1, x.f2, x.f3, x.f4, x.f5))
theorem mono67 : Kd.Mono F67 := Kd.mono_iso _ (Kd.mono_pair (Kd.mono_const _) (Kd.mono_pair (Kd.mono_const _) (Kd.mono_pair (Kd.mono_const _) (Kd.mono_pair (Kd.mono_const _) (Kd.mono_pair (Kd.mono_slice 67 Kd.mono_id) (Kd.mono_slice 67 Kd.mono_id))))))
theorem sub67 : Kd.Sub F67 [67] := Kd.sub_iso _ (Kd.sub_pair (Kd.sub_const _ (by decide)) (Kd.sub_pair (Kd.sub_const _ (by decide)) (Kd.sub_pair (Kd.sub_const _ (by decide)) (Kd.sub_pair (Kd.sub_const _ (by decide)) (Kd.sub_pair (Kd.sub_slice 67 (by decide) Kd.sub_id) (Kd.sub_slice 67 (by decide) Kd.sub_id))))))
theorem sz67 : ∀ n, (Kd.upto F67 6 [67] n).sz = 6 := Kd.upto_sz (fun _ => rfl)
def k67 : Kd S67 := Kd.fix F67 6 [67] sz67 (Kd.upto_E sub67)
theorem k67_openM {w : World} {base : Nat} {ok : Nat → Prop} {x : S67} {cs : List Value} (h : k67.M w base ok x cs) : ∃ v4 v5, cs = [.int .i64 x.f0, .int .i64 x.f1, .int .i64 x.f2, .string x.f3, v4, v5] ∧ k67.R 67 w base ok v4 x.f4 ∧ k67.R 67 w base ok v5 x.f5 := by
 obtain ⟨n, h⟩ := h
 cases n with
 | zero => exact h.elim
 | succ n =>
  obtain ⟨_, _, rfl, rfl, ⟨_, _, rfl, rfl, ⟨_, _, rfl, rfl, ⟨_, _, rfl, rfl, ⟨_, _, rfl, ⟨v4, rfl, g4⟩, ⟨v5, rfl, g5⟩⟩⟩⟩⟩⟩ := h
  exact ⟨v4, v5, rfl, Kd.fix_R g4, Kd.fix_R g5⟩
theorem k67_mkM (w : World) (base : Nat) (ok : Nat → Prop) (x : S67) {v4 : Value} (g4 : k67.R 67 w base ok v4 x.f4) {v5 : Value} (g5 : k67.R 67 w base ok v5 x.f5) : k67.M w base ok x [.int .i64 x.f0, .int .i64 x.f1, .int .i64 x.f2, .string x.f3, v4, v5] := by
 obtain ⟨n4, q4⟩ := Kd.fix_R_back mono67 g4
 obtain ⟨n5, q5⟩ := Kd.fix_R_back mono67 g5
 have r4 := Kd.upto_R_le mono67 sz67 (show n4 ≤ (max n4 n5) by omega) q4
 have r5 := Kd.upto_R_le mono67 sz67 (show n5 ≤ (max n4 n5) by omega) q5
 exact ⟨(max n4 n5) + 1, ⟨[.int .i64 x.f0], [.int .i64 x.f1, .int .i64 x.f2, .string x.f3, v4, v5], rfl, rfl, ⟨[.int .i64 x.f1], [.int .i64 x.f2, .string x.f3, v4, v5], rfl, rfl, ⟨[.int .i64 x.f2], [.string x.f3, v4, v5], rfl, rfl, ⟨[.string x.f3], [v4, v5], rfl, rfl, ⟨[v4], [v5], rfl, ⟨v4, rfl, r4⟩, ⟨v5, rfl, r5⟩⟩⟩⟩⟩⟩⟩
def RowTab : List (Int × Int × Int × Int × Int) := [(0, 127, 0, 0, 0), (194, 223, 128, 191, 1), (224, 224, 160, 191, 2), (225, 236, 128, 191, 2), (237, 237, 128, 159, 2), (238, 239, 128, 191, 2), (240, 240, 144, 191, 3), (241, 243, 128, 191, 3), (244, 244, 128, 143, 3)]
def RowCells : Array Value := (RowTab.flatMap fun r => [Value.int .u8 r.1, .int .u8 r.2.1, .int .u8 r.2.2.1, .int .u8 r.2.2.2.1, .int .i64 r.2.2.2.2]).toArray
structure LaidW (w : World) : Prop where mk :: (out : ∃ t fr, w.heap[0]? = some (.cells RowCells t fr)) (max : ∃ m, w.cell? ⟨1, 0, none⟩ = some (.int .i64 m))
theorem LaidW.below {w w' : World} (h : LaidW w) (hb : Below w.heap.size w w') : LaidW w' := by
 obtain ⟨⟨t, fr, h⟩, ⟨m, hm⟩⟩ := h
 have hl : 0 < w.heap.size := by
  rcases Nat.eq_zero_or_pos w.heap.size with h0 | h0
  ·rw [Array.getElem?_eq_none (by omega)] at h; cases h
  ·exact h0
 exact ⟨⟨t, fr, (hb.block 0 hl).trans h⟩, ⟨m, pw_cell_below hb hm⟩⟩
theorem LaidW.drawn {w w' : World} (h : LaidW w) (hd : Drawn0 w w') : LaidW w' := h.below hd.below
theorem LaidW.drew {w : World} (h : LaidW w) (n : Nat) : LaidW (w.drewN n) := h.drawn ((Drawn0.refl w).step n)
attribute [local go_sem] max2_int min2_int max_two min_two max_three min_three max_four min_four
set_option linter.unusedVariables false
set_option linter.unusedSimpArgs false
def wire_row (i : Int) : Int × Int × Int × Int × Int := RowTab.getD i.toNat (0, 0, 0, 0, 0)
def wlo (i : Int) : Int := (wire_row i).1
def whi (i : Int) : Int := (wire_row i).2.1
def wlo2 (i : Int) : Int := (wire_row i).2.2.1
def whi2 (i : Int) : Int := (wire_row i).2.2.2.1
def wmore (i : Int) : Int := (wire_row i).2.2.2.2
def wire_character.l1 : Nat → ByteArray → Int → Int → Int → Option (Int)
 | 0, _, _, _, _ => none
 | k + 1, s, at_, i, j => if j ≤ wmore i then (if 0 ≤ wrap64 (at_ + j) then (if wrap64 (at_ + j) < (s.size : Int) then (if bt s (wrap64 (at_ + j)) < (if j = 1 then wlo2 i else 128) then some 0 else (if bt s (wrap64 (at_ + j)) > (if j = 1 then whi2 i else 191) then some 0 else wire_character.l1 k s at_ i (wrap64 (j + 1)))) else none) else none) else some (1 + wmore i)
def wire_character.l0 : Nat → ByteArray → Int → Int → Option (Int)
 | 0, _, _, _ => none
 | k + 1, s, at_, i => if i < 9 then (if 0 ≤ at_ then (if at_ < (s.size : Int) then (if bt s at_ < wlo i then wire_character.l0 k s at_ (wrap64 (i + 1)) else (if bt s at_ > whi i then wire_character.l0 k s at_ (wrap64 (i + 1)) else (if wrap64 (at_ + wmore i) ≥ (s.size : Int) then some 0 else wire_character.l1 k s at_ i 1))) else none) else none) else some 0
def wire_character.f (k : Nat) (a0 : ByteArray) (a1 : Int) : Option (Int) := wire_character.l0 k a0 a1 0
theorem wire_character.mono_l : ∀ k, (∀ y0 y1 y2, LeO (wire_character.l0 k y0 y1 y2) (wire_character.l0 (k + 1) y0 y1 y2)) ∧ (∀ y0 y1 y2 y3, LeO (wire_character.l1 k y0 y1 y2 y3) (wire_character.l1 (k + 1) y0 y1 y2 y3))
 | 0 => ⟨fun _ _ _ r h => by simp [wire_character.l0] at h, fun _ _ _ _ r h => by simp [wire_character.l1] at h⟩
 | k + 1 => by
  obtain ⟨ih0, ih1⟩ := wire_character.mono_l k
  refine ⟨?_, ?_⟩
  ·intro y0 y1 y2
   unfold wire_character.l0
   repeat' first
   | (with_reducible exact ih0 _ _ _)
   | (with_reducible exact ih1 _ _ _ _)
   | (with_reducible exact LeO.refl _)
   | (with_reducible exact LeO.none _)
   | (with_reducible refine LeO.ite ?_ ?_)
  ·intro y0 y1 y2 y3
   unfold wire_character.l1
   repeat' first
   | (with_reducible exact ih1 _ _ _ _)
   | (with_reducible exact LeO.refl _)
   | (with_reducible exact LeO.none _)
   | (with_reducible refine LeO.ite ?_ ?_)
theorem wire_character.mono : ∀ a0 a1 k, LeO (wire_character.f k a0 a1) (wire_character.f (k + 1) a0 a1) := by
 intro a0 a1 k
 exact (wire_character.mono_l k).1 _ _ _
theorem wire_index0 (w : World) : (Instr.index 86 (.agg RowCells) (.int .i64 0)).run Tryd.prog w = .ok (.agg #[.int .u8 (wlo 0), .int .u8 (whi 0), .int .u8 (wlo2 0), .int .u8 (whi2 0), .int .i64 (wmore 0)]) w := by kernel_rfl
theorem wire_index1 (w : World) : (Instr.index 86 (.agg RowCells) (.int .i64 1)).run Tryd.prog w = .ok (.agg #[.int .u8 (wlo 1), .int .u8 (whi 1), .int .u8 (wlo2 1), .int .u8 (whi2 1), .int .i64 (wmore 1)]) w := by kernel_rfl
theorem wire_index2 (w : World) : (Instr.index 86 (.agg RowCells) (.int .i64 2)).run Tryd.prog w = .ok (.agg #[.int .u8 (wlo 2), .int .u8 (whi 2), .int .u8 (wlo2 2), .int .u8 (whi2 2), .int .i64 (wmore 2)]) w := by kernel_rfl
theorem wire_index3 (w : World) : (Instr.index 86 (.agg RowCells) (.int .i64 3)).run Tryd.prog w = .ok (.agg #[.int .u8 (wlo 3), .int .u8 (whi 3), .int .u8 (wlo2 3), .int .u8 (whi2 3), .int .i64 (wmore 3)]) w := by kernel_rfl
theorem wire_index4 (w : World) : (Instr.index 86 (.agg RowCells) (.int .i64 4)).run Tryd.prog w = .ok (.agg #[.int .u8 (wlo 4), .int .u8 (whi 4), .int .u8 (wlo2 4), .int .u8 (whi2 4), .int .i64 (wmore 4)]) w := by kernel_rfl
theorem wire_index5 (w : World) : (Instr.index 86 (.agg RowCells) (.int .i64 5)).run Tryd.prog w = .ok (.agg #[.int .u8 (wlo 5), .int .u8 (whi 5), .int .u8 (wlo2 5), .int .u8 (whi2 5), .int .i64 (wmore 5)]) w := by kernel_rfl
theorem wire_index6 (w : World) : (Instr.index 86 (.agg RowCells) (.int .i64 6)).run Tryd.prog w = .ok (.agg #[.int .u8 (wlo 6), .int .u8 (whi 6), .int .u8 (wlo2 6), .int .u8 (whi2 6), .int .i64 (wmore 6)]) w := by kernel_rfl
theorem wire_index7 (w : World) : (Instr.index 86 (.agg RowCells) (.int .i64 7)).run Tryd.prog w = .ok (.agg #[.int .u8 (wlo 7), .int .u8 (whi 7), .int .u8 (wlo2 7), .int .u8 (whi2 7), .int .i64 (wmore 7)]) w := by kernel_rfl
theorem wire_index8 (w : World) : (Instr.index 86 (.agg RowCells) (.int .i64 8)).run Tryd.prog w = .ok (.agg #[.int .u8 (wlo 8), .int .u8 (whi 8), .int .u8 (wlo2 8), .int .u8 (whi2 8), .int .i64 (wmore 8)]) w := by kernel_rfl
theorem wire_index (w : World) (i : Int) (h0 : 0 ≤ i) (h1 : i < 9) : (Instr.index 86 (.agg RowCells) (.int .i64 i)).run Tryd.prog w = .ok (.agg #[.int .u8 (wlo i), .int .u8 (whi i), .int .u8 (wlo2 i), .int .u8 (whi2 i), .int .i64 (wmore i)]) w := by
 rcases (show i = 0 ∨ i = 1 ∨ i = 2 ∨ i = 3 ∨ i = 4 ∨ i = 5 ∨ i = 6 ∨ i = 7 ∨ i = 8 by omega) with rfl | rfl | rfl | rfl | rfl | rfl | rfl | rfl | rfl
 ·exact wire_index0 w
 ·exact wire_index1 w
 ·exact wire_index2 w
 ·exact wire_index3 w
 ·exact wire_index4 w
 ·exact wire_index5 w
 ·exact wire_index6 w
 ·exact wire_index7 w
 ·exact wire_index8 w
theorem wmore_range (i : Int) : 0 ≤ wmore i ∧ wmore i ≤ 3 := by
 unfold wmore wire_row
 rcases (show i.toNat = 0 ∨ i.toNat = 1 ∨ i.toNat = 2 ∨ i.toNat = 3 ∨ i.toNat = 4 ∨ i.toNat = 5 ∨ i.toNat = 6 ∨ i.toNat = 7 ∨ i.toNat = 8 ∨ 9 ≤ i.toNat by omega) with h | h | h | h | h | h | h | h | h | h
 all_goals first | (rw [h]; decide) | skip
 rw [List.getD_eq_getElem?_getD, List.getElem?_eq_none (by simpa [RowTab] using h)]
 decide
theorem w64ish (x : Int) (h0 : 0 ≤ x) (h1 : x < 9) : Aside0 (wrap64 (x + 1) = x + 1) := ⟨by unfold wrap64; omega⟩
set_option maxHeartbeats 4000000 in
set_option maxRecDepth 100000 in
theorem wire_character.calls (k : Nat) (a0 : ByteArray) (a1 : Int) (r : Int) (w : World) (h : wire_character.f k a0 a1 = some r) (hL : LaidW w) :
  Calls Tryd.prog 20 #[.string a0, .int .i64 a1] w fun e w' => e = .returned (.int .i64 r) ∧ Below w.heap.size w w' := by
 obtain ⟨⟨tg, fr, hg⟩, _⟩ := hL
 have HB := yM (Below.refl w.heap.size w)
 have H' := yM h
 clear h
 unfold wire_character.f at H'
 go_enter Tryd.func20, Tryd.ntmps20
 go_wp2_with (refine wpList_load_row rfl 86 _ rfl 0 rfl tg _ fr _ hg Tryd.underlying86 rfl (by kernel_rfl) ?_)
 clear hg
 go_loopg [11] k (fun kq v11 w' => ∃ x11 : Int, v11 = .int .i64 x11 ∧ Aside0 (0 ≤ x11) ∧ Aside0 (wire_character.l0 kq a0 a1 x11 = some r) ∧ Aside0 (Below w.heap.size w w'))
 case atStart => exact ⟨0, rfl, ⟨by omega⟩, H', HB⟩
 case round =>
  clear H' HB
  obtain ⟨x11, rfl, H0, HA, HB⟩ := hrel
  cases gk with
  | zero => exact absurd HA.out (by simp [wire_character.l0])
  | succ k1 =>
   have H := HA.out
   clear HA
   simp only [wire_character.l0] at H
   by_cases c1 : x11 < 9
   ·rw [if_pos c1] at H
    have c1b : decide (x11 < 9) = true := decide_eq_true c1
    have hix := fun W => wire_index W x11 H0.out c1
    have hw := w64ish x11 H0.out c1
    rw [hw.out] at H
    clear c1
    by_cases c2 : 0 ≤ a1
    ·rw [if_pos c2] at H
     have c2b : decide (0 ≤ a1) = true := decide_eq_true c2
     by_cases c3 : a1 < (a0.size : Int)
     ·rw [if_pos c3] at H
      have c3b : decide (a1 < (a0.size : Int)) = true := decide_eq_true c3
      have hx := bt_at a0 a1
      have p4 := eq_true c2
      have q4 := eq_true c3
      have hm := wmore_range x11
      have hm1 := hm.1
      have hm2 := hm.2
      clear c3 c2 hm
      by_cases c4 : bt a0 a1 < wlo x11
      ·rw [if_pos c4] at H
       have c4b : decide (bt a0 a1 < wlo x11) = true := decide_eq_true c4
       clear c4
       have H' := yM H
       clear H
       go_wp2
       go_quiet (fail)
       go_wp2
       go_roundg k1
       case measure => omega
       case rel => exact ⟨x11 + 1, congrArg (Value.int .i64) hw.out, ⟨by have := H0.out; omega⟩, H', ⟨by repeat (first | (with_reducible first | exact HB.out | apply zA | apply zN | apply zD) | exact HB.out)⟩⟩
      ·rw [if_neg c4] at H
       have c4b : decide (bt a0 a1 < wlo x11) = false := decide_eq_false c4
       clear c4
       by_cases c5 : bt a0 a1 > whi x11
       ·rw [if_pos c5] at H
        have c5b : decide (whi x11 < bt a0 a1) = true := decide_eq_true c5
        clear c5
        have H' := yM H
        clear H
        go_wp2
        go_quiet (fail)
        go_wp2
        go_roundg k1
        case measure => omega
        case rel => exact ⟨x11 + 1, congrArg (Value.int .i64) hw.out, ⟨by have := H0.out; omega⟩, H', ⟨by repeat (first | (with_reducible first | exact HB.out | apply zA | apply zN | apply zD) | exact HB.out)⟩⟩
       ·rw [if_neg c5] at H
        have c5b : decide (whi x11 < bt a0 a1) = false := decide_eq_false c5
        clear c5
        by_cases c6 : wrap64 (a1 + wmore x11) ≥ (a0.size : Int)
        ·rw [if_pos c6] at H
         have c6b : decide ((a0.size : Int) ≤ wrap64 (a1 + wmore x11)) = true := decide_eq_true c6
         clear c6
         obtain rfl := Option.some.inj H
         go_wp2
         go_quiet (fail)
         go_wp2
         go_ret
         exact ⟨rfl, by repeat (first | (with_reducible first | exact HB.out | apply zA | apply zN | apply zD) | exact HB.out)⟩
        ·rw [if_neg c6] at H
         have c6b : decide ((a0.size : Int) ≤ wrap64 (a1 + wmore x11)) = false := decide_eq_false c6
         clear c6
         have H' := yM H
         clear H
         go_wp2
         go_quiet (fail)
         go_wp2
         obtain ⟨wo, rfl⟩ : ∃ wo : World, wo = wr := ⟨_, rfl⟩
         go_loopg [7, 8, 9] k1 (fun kq v7 _ _ w' => ∃ x7 : Int, v7 = .int .i64 x7 ∧ Aside0 (1 ≤ x7) ∧ Aside0 (wire_character.l1 kq a0 a1 x11 x7 = some r) ∧ ∃ n : Nat, w' = (wo.alloc (.cells #[.int .u8 (wlo x11), .int .u8 (whi x11), .int .u8 (wlo2 x11), .int .u8 (whi2 x11), .int .i64 (wmore x11)] 85)).drewN n)
         case atStart => exact ⟨1, rfl, ⟨by omega⟩, H', _, rfl⟩
         case round =>
          clear H' c2b c3b c4b c5b c6b hx p4 q4
          obtain ⟨x7, rfl, H1, HA, nw, rfl⟩ := hrel
          have H := HA.out
          clear HA
          cases gk with
          | zero => simp [wire_character.l1] at H
          | succ k2 =>
          simp only [wire_character.l1] at H
          by_cases d1 : x7 ≤ wmore x11
          ·rw [if_pos d1] at H
           have d1b : decide (x7 ≤ wmore x11) = true := decide_eq_true d1
           have hw7 : Aside0 (wrap64 (x7 + 1) = x7 + 1) := ⟨by have := H1.out; unfold wrap64; omega⟩
           rw [hw7.out] at H
           clear d1
           by_cases d2 : 0 ≤ wrap64 (a1 + x7)
           ·rw [if_pos d2] at H
            by_cases d3 : wrap64 (a1 + x7) < (a0.size : Int)
            ·rw [if_pos d3] at H
             have hx := bt_at a0 (wrap64 (a1 + x7))
             have p4 := eq_true d2
             have q4 := eq_true d3
             clear d2 d3
             by_cases d4 : x7 = 1
             ·rw [if_pos d4, if_pos d4] at H
              have d4b : (x7 == 1) = true := beq_iff_eq.mpr d4
              clear d4
              by_cases d5 : bt a0 (wrap64 (a1 + x7)) < wlo2 x11
              ·rw [if_pos d5] at H
               have d5b : decide (bt a0 (wrap64 (a1 + x7)) < wlo2 x11) = true := decide_eq_true d5
               clear d5
               obtain rfl := Option.some.inj H
               go_wp2
               go_quiet (fail)
               go_wp2
               go_ret
               exact ⟨rfl, by repeat (first | (with_reducible first | exact HB.out | apply zA | apply zN | apply zD) | exact HB.out)⟩
              ·rw [if_neg d5] at H
               have d5b : decide (bt a0 (wrap64 (a1 + x7)) < wlo2 x11) = false := decide_eq_false d5
               clear d5
               by_cases d6 : bt a0 (wrap64 (a1 + x7)) > whi2 x11
               ·rw [if_pos d6] at H
                have d6b : decide (whi2 x11 < bt a0 (wrap64 (a1 + x7))) = true := decide_eq_true d6
                clear d6
                obtain rfl := Option.some.inj H
                go_wp2
                go_quiet (fail)
                go_wp2
                go_ret
                exact ⟨rfl, by repeat (first | (with_reducible first | exact HB.out | apply zA | apply zN | apply zD) | exact HB.out)⟩
               ·rw [if_neg d6] at H
                have d6b : decide (whi2 x11 < bt a0 (wrap64 (a1 + x7))) = false := decide_eq_false d6
                clear d6
                have H' := yM H
                clear H
                go_wp2
                go_quiet (fail)
                go_wp2
                go_roundg k2
                case measure => omega
                case rel => exact ⟨x7 + 1, congrArg (Value.int .i64) hw7.out, ⟨by have := H1.out; omega⟩, H', _, rfl⟩
             ·rw [if_neg d4, if_neg d4] at H
              have d4b : (x7 == 1) = false := yB d4
              clear d4
              by_cases d5 : bt a0 (wrap64 (a1 + x7)) < 128
              ·rw [if_pos d5] at H
               have d5b : decide (bt a0 (wrap64 (a1 + x7)) < 128) = true := decide_eq_true d5
               clear d5
               obtain rfl := Option.some.inj H
               go_wp2
               go_ret
               exact ⟨rfl, by repeat (first | (with_reducible first | exact HB.out | apply zA | apply zN | apply zD) | exact HB.out)⟩
              ·rw [if_neg d5] at H
               have d5b : decide (bt a0 (wrap64 (a1 + x7)) < 128) = false := decide_eq_false d5
               clear d5
               by_cases d6 : bt a0 (wrap64 (a1 + x7)) > 191
               ·rw [if_pos d6] at H
                have d6b : decide (191 < bt a0 (wrap64 (a1 + x7))) = true := decide_eq_true d6
                clear d6
                obtain rfl := Option.some.inj H
                go_wp2
                go_ret
                exact ⟨rfl, by repeat (first | (with_reducible first | exact HB.out | apply zA | apply zN | apply zD) | exact HB.out)⟩
               ·rw [if_neg d6] at H
                have d6b : decide (191 < bt a0 (wrap64 (a1 + x7))) = false := decide_eq_false d6
                clear d6
                have H' := yM H
                clear H
                go_wp2
                go_roundg k2
                case measure => omega
                case rel => exact ⟨x7 + 1, congrArg (Value.int .i64) hw7.out, ⟨by have := H1.out; omega⟩, H', _, rfl⟩
            ·rw [if_neg d3] at H
             cases H
           ·rw [if_neg d2] at H
            cases H
          ·rw [if_neg d1] at H
           have d1b : decide (x7 ≤ wmore x11) = false := decide_eq_false d1
           clear d1
           obtain rfl := Option.some.inj H
           go_wp2
           go_ret
           exact ⟨rfl, by repeat (first | (with_reducible first | exact HB.out | apply zA | apply zN | apply zD) | exact HB.out)⟩
     ·rw [if_neg c3] at H
      cases H
    ·rw [if_neg c2] at H
     cases H
   ·rw [if_neg c1] at H
    have c1b : decide (x11 < 9) = false := decide_eq_false c1
    clear c1
    obtain rfl := Option.some.inj H
    go_wp2
    go_ret
    exact ⟨rfl, by repeat (first | (with_reducible first | exact HB.out | apply zA | apply zN | apply zD) | exact HB.out)⟩
def wire_Utf8.l0 : Nat → ByteArray → Int → Option (Int)
 | 0, _, _ => none
 | k + 1, x0, x3 => if x3 < (x0.size : Int) then ((wire_character.f k x0 x3).bind fun t101 => (if t101 = 0 then (some x3) else (wire_Utf8.l0 k x0 (wrap64 (x3 + t101))))) else (some (-1))
def wire_Utf8.f (k : Nat) (a0 : ByteArray) : Option (Int) := wire_Utf8.l0 k a0 0
theorem wire_Utf8.mono_l : ∀ k, (∀ y0 y1, LeO (wire_Utf8.l0 k y0 y1) (wire_Utf8.l0 (k + 1) y0 y1))
 | 0 => fun _ _ r h => by simp [wire_Utf8.l0] at h
 | k + 1 => by
  have ih0 := wire_Utf8.mono_l k
  ·intro y0 y1
   unfold wire_Utf8.l0
   repeat' first
   | (with_reducible exact ih0 _ _)
   | (with_reducible exact wire_character.mono _ _ _)
   | (with_reducible exact LeO.refl _)
   | (with_reducible exact LeO.none _)
   | (with_reducible refine LeO.ite ?_ ?_)
   | (with_reducible refine LeO.bind ?_ (fun _ => ?_))
   | exact ih0 _ _
   | exact wire_character.mono _ _ _
   | exact LeO.none _
   | refine LeO.ite ?_ ?_
   | refine LeO.bind ?_ (fun _ => ?_)
theorem wire_Utf8.mono : ∀ a0 k, LeO (wire_Utf8.f k a0) (wire_Utf8.f (k + 1) a0) := by
 intro a0 k
 have ih0 := wire_Utf8.mono_l k
 unfold wire_Utf8.f
 repeat' first
   | (with_reducible exact ih0 _ _)
   | (with_reducible exact wire_character.mono _ _ _)
   | (with_reducible exact LeO.refl _)
   | (with_reducible exact LeO.none _)
   | (with_reducible refine LeO.ite ?_ ?_)
   | (with_reducible refine LeO.bind ?_ (fun _ => ?_))
   | exact ih0 _ _
   | exact wire_character.mono _ _ _
   | exact LeO.none _
   | refine LeO.ite ?_ ?_
   | refine LeO.bind ?_ (fun _ => ?_)
set_option maxHeartbeats 8000000 in
set_option maxRecDepth 100000 in
theorem wire_Utf8.calls (k : Nat) (a0 : ByteArray) (r : Int) (w : World) (h : wire_Utf8.f k a0 = some r) (hL : LaidW w) :
  Calls Tryd.prog 12 #[.string a0] w fun e w' => e = .returned (.int .i64 r) ∧ Below w.heap.size w w' := by
 have HL := yM hL
 clear hL
 have HB := yM (Below.refl w.heap.size w)
 have H : (wire_Utf8.l0 k a0 0) = some r := h
 clear h
 have H' := yM H
 clear H
 go_enter Tryd.func12, Tryd.ntmps12
 go_wp2
 go_loopg [3] k (fun kq v3 w' => ∃ (x3_1 : Int), v3 = .int .i64 x3_1 ∧ Aside0 (wire_Utf8.l0 kq a0 x3_1 = some r) ∧ Aside0 (kq ≤ k) ∧ Aside0 (Below w.heap.size w w'))
 case atStart => exact ⟨(0), (by first | rfl | (simp; done) | (simp [*]; done)), H', ⟨Nat.le_refl _⟩, ⟨by repeat (first | (with_reducible first | exact HB.out | apply zA | apply zN | apply zD) | exact HB.out)⟩⟩
 case round =>
  clear H'
  obtain ⟨x3_1, rfl, HA, HK1, HB⟩ := hrel
  cases gk with
  | zero => exact absurd HA.out (by simp [wire_Utf8.l0])
  | succ k1 =>
   have H := HA.out
   clear HA
   simp only [wire_Utf8.l0] at H
   by_cases c2 : x3_1 < (a0.size : Int)
   ·rw [if_pos c2] at H
    have c2b0 : decide (x3_1 < (a0.size : Int)) = true := decide_eq_true c2
    clear c2
    replace H := yO H
    obtain ⟨t101, A30, H⟩ := H
    replace H : (if t101 = 0 then (some x3_1) else (wire_Utf8.l0 k1 a0 (wrap64 (x3_1 + t101)))) = some r := H
    have A3 := yM A30
    clear A30
    by_cases c4 : t101 = 0
    ·rw [if_pos c4] at H
     have c4b0 : (t101 == 0) = true := beq_iff_eq.mpr c4
     have c4b1 : (t101 != 0) = false := bne_eq_false_iff_eq.mpr c4
     clear c4
     obtain rfl := Option.some.inj H
     go_wp2_with (first | ((with_reducible refine gate_callee (f := 20) rfl ?_); refine goesL_ (some 11) rfl rfl Tryd.func20 (by kernel_rfl) rfl #[.string a0, .int .i64 x3_1] rfl (by (try simp only [List.map_toArray, List.map_cons, List.map_nil]); first | done | rfl | (simp only [List.length_drop, List.length_take]; rfl)) ?_; (with_reducible refine (wire_character.calls k1 a0 x3_1 t101 _ A3.out (LaidW.below HL.out (by repeat (first | (with_reducible first | exact HB.out | apply zA | apply zN | apply zD) | exact HB.out | exact Below.refl _ _)))).mono ?_); rintro e w5 ⟨rfl, hb⟩; refine ⟨_, rfl, ?_⟩; have n0_ := yM (below_step (by repeat (first | (with_reducible first | exact HB.out | apply zA | apply zN | apply zD) | exact HB.out)) hb); clear HB; have HB := n0_; clear n0_; (try clear hb); (try clear hb2); (try clear hk); (try clear hi)))
     go_ret
     exact ⟨by first | rfl | (simp [errW_none, errW_some] <;> rfl) | (simp [*, errW_none, errW_some] <;> rfl), by repeat (first | (with_reducible first | exact HB.out | apply zA | apply zN | apply zD) | exact HB.out)⟩
    ·rw [if_neg c4] at H
     have c4b0 : (t101 == 0) = false := yB c4
     have c4b1 : (t101 != 0) = true := bne_iff_ne.mpr c4
     have H' := yM H
     clear H
     go_wp2_with (first | ((with_reducible refine gate_callee (f := 20) rfl ?_); refine goesL_ (some 11) rfl rfl Tryd.func20 (by kernel_rfl) rfl #[.string a0, .int .i64 x3_1] rfl (by (try simp only [List.map_toArray, List.map_cons, List.map_nil]); first | done | rfl | (simp only [List.length_drop, List.length_take]; rfl)) ?_; (with_reducible refine (wire_character.calls k1 a0 x3_1 t101 _ A3.out (LaidW.below HL.out (by repeat (first | (with_reducible first | exact HB.out | apply zA | apply zN | apply zD) | exact HB.out | exact Below.refl _ _)))).mono ?_); rintro e w6 ⟨rfl, hb⟩; refine ⟨_, rfl, ?_⟩; have n0_ := yM (below_step (by repeat (first | (with_reducible first | exact HB.out | apply zA | apply zN | apply zD) | exact HB.out)) hb); clear HB; have HB := n0_; clear n0_; (try clear hb); (try clear hb2); (try clear hk); (try clear hi)))
     go_roundg k1
     case measure => have := HK1.out; omega
     case rel => exact ⟨(wrap64 (x3_1 + t101)), (by first | rfl | (simp; done) | (simp [*]; done)), H', ⟨by have := HK1.out; omega⟩, ⟨by repeat (first | (with_reducible first | exact HB.out | apply zA | apply zN | apply zD) | exact HB.out)⟩⟩
   ·rw [if_neg c2] at H
    have c2b0 : decide (x3_1 < (a0.size : Int)) = false := decide_eq_false c2
    clear c2
    obtain rfl := Option.some.inj H
    go_wp2
    go_ret
    exact ⟨by first | rfl | (simp [errW_none, errW_some] <;> rfl) | (simp [*, errW_none, errW_some] <;> rfl), by repeat (first | (with_reducible first | exact HB.out | apply zA | apply zN | apply zD) | exact HB.out)⟩
mutual
def U_follow.j3 : Nat → ByteArray → Int → Int → Int → Int → Option (Int)
 | 0, _, _, _, _, _ => none
 | k + 1, x0, x1, x6, x7, x8 => if (wrap64 (x1 + x6)) > (x0.size : Int) then (some 0) else (U_follow.l0 k x0 x1 x6 x7 x8 1)
def U_follow.l0 : Nat → ByteArray → Int → Int → Int → Int → Int → Option (Int)
 | 0, _, _, _, _, _, _ => none
 | k + 1, x0, x1, x6, x7, x8, x9 => if x9 < x6 then (if 0 ≤ (wrap64 (x1 + x9)) then (if (wrap64 (x1 + x9)) < (x0.size : Int) then (if (wrap64 (bt x0 (wrap64 (x1 + x9)))) < x7 then (some 0) else (if (wrap64 (bt x0 (wrap64 (x1 + x9)))) > x8 then (some 0) else (U_follow.l0 k x0 x1 x6 128 191 (wrap64 (x9 + 1))))) else (none)) else (none)) else (some x6)
def U_follow.j0 : Nat → ByteArray → Int → Int → Int → Int → Bool → Option (Int)
 | 0, _, _, _, _, _, _ => none
 | k + 1, x0, x1, x5, x7, x8, x18 => if x18 = true then (U_follow.j3 k x0 x1 2 x7 x8) else (if x5 ≥ 224 then (U_follow.j1 k x0 x1 x5 x7 x8 (decide (x5 ≤ 239))) else (U_follow.j1 k x0 x1 x5 x7 x8 false))
def U_follow.j1 : Nat → ByteArray → Int → Int → Int → Int → Bool → Option (Int)
 | 0, _, _, _, _, _, _ => none
 | k + 1, x0, x1, x5, x7, x8, x25 => if x25 = true then (if x5 = 224 then (if x5 = 237 then (U_follow.j3 k x0 x1 3 160 159) else (U_follow.j3 k x0 x1 3 160 x8)) else (if x5 = 237 then (U_follow.j3 k x0 x1 3 x7 159) else (U_follow.j3 k x0 x1 3 x7 x8))) else (if x5 ≥ 240 then (U_follow.j2 k x0 x1 x5 x7 x8 (decide (x5 ≤ 244))) else (U_follow.j2 k x0 x1 x5 x7 x8 false))
def U_follow.j2 : Nat → ByteArray → Int → Int → Int → Int → Bool → Option (Int)
 | 0, _, _, _, _, _, _ => none
 | k + 1, x0, x1, x5, x7, x8, x36 => if x36 = true then (if x5 = 240 then (if x5 = 244 then (U_follow.j3 k x0 x1 4 144 143) else (U_follow.j3 k x0 x1 4 144 x8)) else (if x5 = 244 then (U_follow.j3 k x0 x1 4 x7 143) else (U_follow.j3 k x0 x1 4 x7 x8))) else (some 0)
end
def U_follow.f (k : Nat) (a0 : ByteArray) (a1 : Int) : Option (Int) := if 0 ≤ a1 then (if a1 < (a0.size : Int) then (if (wrap64 (bt a0 a1)) < 128 then (some 1) else (if (wrap64 (bt a0 a1)) ≥ 194 then (U_follow.j0 k a0 a1 (wrap64 (bt a0 a1)) 128 191 (decide ((wrap64 (bt a0 a1)) ≤ 223))) else (U_follow.j0 k a0 a1 (wrap64 (bt a0 a1)) 128 191 false))) else (none)) else (none)
set_option maxHeartbeats 8000000 in
set_option maxRecDepth 100000 in
theorem U_follow.calls (k : Nat) (a0 : ByteArray) (a1 : Int) (r : Int) (w : World) (h : U_follow.f k a0 a1 = some r) :
  Calls Tryd.prog 43 #[.string a0, .int .i64 a1] w fun e w' => e = .returned (.int .i64 r) ∧ Drawn0 w w' := by
 have H : (if 0 ≤ a1 then (if a1 < (a0.size : Int) then (if (wrap64 (bt a0 a1)) < 128 then (some 1) else (if (wrap64 (bt a0 a1)) ≥ 194 then (U_follow.j0 k a0 a1 (wrap64 (bt a0 a1)) 128 191 (decide ((wrap64 (bt a0 a1)) ≤ 223))) else (U_follow.j0 k a0 a1 (wrap64 (bt a0 a1)) 128 191 false))) else (none)) else (none)) = some r := h
 clear h
 by_cases c3 : 0 ≤ a1
 ·rw [if_pos c3] at H
  have c3b0 : decide (0 ≤ a1) = true := decide_eq_true c3
  clear c3
  by_cases c4 : a1 < (a0.size : Int)
  ·rw [if_pos c4] at H
   have c4b0 : decide (a1 < (a0.size : Int)) = true := decide_eq_true c4
   clear c4
   have HC6 := yM H
   clear H
   have p5 : 0 ≤ (a1 : Int) := yQ (by first | (with_reducible assumption) | assumption)
   have q5 : a1 < (a0.size : Int) := yQ (by first | (with_reducible assumption) | assumption)
   have hx5 := bt_at a0 a1
   replace p5 := eq_true p5
   replace q5 := eq_true q5
   go_enter Tryd.func43, Tryd.ntmps43
   go_upto_block 0 with (fail)
   go_cut [6, 7, 8] (fun v6 v7 v8 wc => ∃ (kq : Nat) (x6_5 : Int) (x7_5 : Int) (x8_5 : Int), v6 = .int .i64 x6_5 ∧ v7 = .int .i64 x7_5 ∧ v8 = .int .i64 x8_5 ∧ Aside0 (U_follow.j3 kq a0 a1 x6_5 x7_5 x8_5 = some r) ∧ Aside0 (kq ≤ k) ∧ Drawn0 w wc)
   case first =>
    have H := HC6.out
    clear HC6
    by_cases c7 : (wrap64 (bt a0 a1)) < 128
    ·rw [if_pos c7] at H
     have c7b0 : decide ((wrap64 (bt a0 a1)) < 128) = true := decide_eq_true c7
     clear c7
     (first | rw [c7b0] | (simp only [i64_w, i32_w]; rw [c7b0]) | skip)
     obtain rfl := Option.some.inj H
     go_wp2
     go_ret
     exact ⟨by first | rfl | (simp; done) | (simp [*]; done), by repeat (first | exact Drawn0.refl _ | apply Drawn0.step)⟩
    ·rw [if_neg c7] at H
     have c7b0 : decide ((wrap64 (bt a0 a1)) < 128) = false := decide_eq_false c7
     clear c7
     (first | rw [c7b0] | (simp only [i64_w, i32_w]; rw [c7b0]) | skip)
     have HC8 := yM H
     clear H
     go_upto_region 8 with (fail)
     go_cut [18] (fun v18 wc => ∃ (kq : Nat) (x18_7 : Bool), v18 = .bool x18_7 ∧ Aside0 (U_follow.j0 kq a0 a1 (wrap64 (bt a0 a1)) 128 191 x18_7 = some r) ∧ Aside0 (kq ≤ k) ∧ Drawn0 w wc)
     case first =>
      have H := HC8.out
      clear HC8
      by_cases c9 : (wrap64 (bt a0 a1)) ≥ 194
      ·rw [if_pos c9] at H
       have c9b0 : decide (194 ≤ (wrap64 (bt a0 a1))) = true := decide_eq_true c9
       clear c9
       (first | rw [c9b0] | (simp only [i64_w, i32_w]; rw [c9b0]) | skip)
       have H' := yM H
       clear H
       go_wp2
       go_meet
       case rel => exact ⟨_, (decide ((wrap64 (bt a0 a1)) ≤ 223)), (by first | rfl | (simp; done) | (simp [*]; done)), H', ⟨by first | omega | exact Nat.le_refl _⟩, by repeat (first | exact Drawn0.refl _ | apply Drawn0.step)⟩
      ·rw [if_neg c9] at H
       have c9b0 : decide (194 ≤ (wrap64 (bt a0 a1))) = false := decide_eq_false c9
       clear c9
       (first | rw [c9b0] | (simp only [i64_w, i32_w]; rw [c9b0]) | skip)
       have H' := yM H
       clear H
       go_wp2
       go_meet
       case rel => exact ⟨_, (false), (by first | rfl | (simp; done) | (simp [*]; done)), H', ⟨by first | omega | exact Nat.le_refl _⟩, by repeat (first | exact Drawn0.refl _ | apply Drawn0.step)⟩
     case rest =>
      clear HC8
      obtain ⟨kq, x18_7, rfl, HA, HJ7, ⟨mc7, rfl⟩⟩ := hcut
      cases kq with
      | zero => exact absurd HA.out (by simp [U_follow.j0])
      | succ kj7 =>
       have H := HA.out
       clear HA
       simp only [U_follow.j0] at H
       by_cases c10 : x18_7 = true
       ·subst c10
        have H1 : (U_follow.j3 kj7 a0 a1 2 128 191) = some r := by rw [if_pos rfl] at H; exact H
        clear H
        have H := H1
        clear H1
        have H' := yM H
        clear H
        go_wp2
        go_meet
        case rel => exact ⟨_, (2), (128), (191), (by first | rfl | (simp; done) | (simp [*]; done)), (by first | rfl | (simp; done) | (simp [*]; done)), (by first | rfl | (simp; done) | (simp [*]; done)), H', ⟨by have := HJ7.out; first | omega | exact Nat.le_refl _⟩, by repeat (first | exact Drawn0.refl _ | apply Drawn0.step)⟩
       ·replace c10 := Bool.eq_false_iff.mpr c10
        subst c10
        have H1 : (if (wrap64 (bt a0 a1)) ≥ 224 then (U_follow.j1 kj7 a0 a1 (wrap64 (bt a0 a1)) 128 191 (decide ((wrap64 (bt a0 a1)) ≤ 239))) else (U_follow.j1 kj7 a0 a1 (wrap64 (bt a0 a1)) 128 191 false)) = some r := by rw [if_neg (show ¬ (false = true) by decide)] at H; exact H
        clear H
        have H := H1
        clear H1
        have HC11 := yM H
        clear H
        go_upto_region 10 with (fail)
        go_cut [25] (fun v25 wc => ∃ (kq : Nat) (x25_10 : Bool), v25 = .bool x25_10 ∧ Aside0 (U_follow.j1 kq a0 a1 (wrap64 (bt a0 a1)) 128 191 x25_10 = some r) ∧ Aside0 (kq ≤ kj7) ∧ Drawn0 w wc)
        case first =>
         have H := HC11.out
         clear HC11
         by_cases c12 : (wrap64 (bt a0 a1)) ≥ 224
         ·rw [if_pos c12] at H
          have c12b0 : decide (224 ≤ (wrap64 (bt a0 a1))) = true := decide_eq_true c12
          clear c12
          (first | rw [c12b0] | (simp only [i64_w, i32_w]; rw [c12b0]) | skip)
          have H' := yM H
          clear H
          go_wp2
          go_meet
          case rel => exact ⟨_, (decide ((wrap64 (bt a0 a1)) ≤ 239)), (by first | rfl | (simp; done) | (simp [*]; done)), H', ⟨by have := HJ7.out; first | omega | exact Nat.le_refl _⟩, by repeat (first | exact Drawn0.refl _ | apply Drawn0.step)⟩
         ·rw [if_neg c12] at H
          have c12b0 : decide (224 ≤ (wrap64 (bt a0 a1))) = false := decide_eq_false c12
          clear c12
          (first | rw [c12b0] | (simp only [i64_w, i32_w]; rw [c12b0]) | skip)
          have H' := yM H
          clear H
          go_wp2
          go_meet
          case rel => exact ⟨_, (false), (by first | rfl | (simp; done) | (simp [*]; done)), H', ⟨by have := HJ7.out; first | omega | exact Nat.le_refl _⟩, by repeat (first | exact Drawn0.refl _ | apply Drawn0.step)⟩
        case rest =>
         clear HC11
         obtain ⟨kq, x25_10, rfl, HA, HJ10, ⟨mc10, rfl⟩⟩ := hcut
         cases kq with
         | zero => exact absurd HA.out (by simp [U_follow.j1])
         | succ kj10 =>
          have H := HA.out
          clear HA
          simp only [U_follow.j1] at H
          by_cases c13 : x25_10 = true
          ·subst c13
           have H1 : (if (wrap64 (bt a0 a1)) = 224 then (if (wrap64 (bt a0 a1)) = 237 then (U_follow.j3 kj10 a0 a1 3 160 159) else (U_follow.j3 kj10 a0 a1 3 160 191)) else (if (wrap64 (bt a0 a1)) = 237 then (U_follow.j3 kj10 a0 a1 3 128 159) else (U_follow.j3 kj10 a0 a1 3 128 191))) = some r := by rw [if_pos rfl] at H; exact H
           clear H
           have H := H1
           clear H1
           by_cases c14 : (wrap64 (bt a0 a1)) = 224
           ·rw [if_pos c14] at H
            have c14b0 : ((wrap64 (bt a0 a1)) == 224) = true := beq_iff_eq.mpr c14
            have c14b1 : ((wrap64 (bt a0 a1)) != 224) = false := bne_eq_false_iff_eq.mpr c14
            clear c14
            by_cases c15 : (wrap64 (bt a0 a1)) = 237
            ·rw [if_pos c15] at H
             have c15b0 : ((wrap64 (bt a0 a1)) == 237) = true := beq_iff_eq.mpr c15
             have c15b1 : ((wrap64 (bt a0 a1)) != 237) = false := bne_eq_false_iff_eq.mpr c15
             clear c15
             have H' := yM H
             clear H
             go_wp2
             go_meet
             case rel => exact ⟨_, (3), (160), (159), (by first | rfl | (simp; done) | (simp [*]; done)), (by first | rfl | (simp; done) | (simp [*]; done)), (by first | rfl | (simp; done) | (simp [*]; done)), H', ⟨by have := HJ7.out; have := HJ10.out; first | omega | exact Nat.le_refl _⟩, by repeat (first | exact Drawn0.refl _ | apply Drawn0.step)⟩
            ·rw [if_neg c15] at H
             have c15b0 : ((wrap64 (bt a0 a1)) == 237) = false := yB c15
             have c15b1 : ((wrap64 (bt a0 a1)) != 237) = true := bne_iff_ne.mpr c15
             have H' := yM H
             clear H
             go_wp2
             go_meet
             case rel => exact ⟨_, (3), (160), (191), (by first | rfl | (simp; done) | (simp [*]; done)), (by first | rfl | (simp; done) | (simp [*]; done)), (by first | rfl | (simp; done) | (simp [*]; done)), H', ⟨by have := HJ7.out; have := HJ10.out; first | omega | exact Nat.le_refl _⟩, by repeat (first | exact Drawn0.refl _ | apply Drawn0.step)⟩
           ·rw [if_neg c14] at H
            have c14b0 : ((wrap64 (bt a0 a1)) == 224) = false := yB c14
            have c14b1 : ((wrap64 (bt a0 a1)) != 224) = true := bne_iff_ne.mpr c14
            by_cases c16 : (wrap64 (bt a0 a1)) = 237
            ·rw [if_pos c16] at H
             have c16b0 : ((wrap64 (bt a0 a1)) == 237) = true := beq_iff_eq.mpr c16
             have c16b1 : ((wrap64 (bt a0 a1)) != 237) = false := bne_eq_false_iff_eq.mpr c16
             clear c16
             have H' := yM H
             clear H
             go_wp2
             go_meet
             case rel => exact ⟨_, (3), (128), (159), (by first | rfl | (simp; done) | (simp [*]; done)), (by first | rfl | (simp; done) | (simp [*]; done)), (by first | rfl | (simp; done) | (simp [*]; done)), H', ⟨by have := HJ7.out; have := HJ10.out; first | omega | exact Nat.le_refl _⟩, by repeat (first | exact Drawn0.refl _ | apply Drawn0.step)⟩
            ·rw [if_neg c16] at H
             have c16b0 : ((wrap64 (bt a0 a1)) == 237) = false := yB c16
             have c16b1 : ((wrap64 (bt a0 a1)) != 237) = true := bne_iff_ne.mpr c16
             have H' := yM H
             clear H
             go_wp2
             go_meet
             case rel => exact ⟨_, (3), (128), (191), (by first | rfl | (simp; done) | (simp [*]; done)), (by first | rfl | (simp; done) | (simp [*]; done)), (by first | rfl | (simp; done) | (simp [*]; done)), H', ⟨by have := HJ7.out; have := HJ10.out; first | omega | exact Nat.le_refl _⟩, by repeat (first | exact Drawn0.refl _ | apply Drawn0.step)⟩
          ·replace c13 := Bool.eq_false_iff.mpr c13
           subst c13
           have H1 : (if (wrap64 (bt a0 a1)) ≥ 240 then (U_follow.j2 kj10 a0 a1 (wrap64 (bt a0 a1)) 128 191 (decide ((wrap64 (bt a0 a1)) ≤ 244))) else (U_follow.j2 kj10 a0 a1 (wrap64 (bt a0 a1)) 128 191 false)) = some r := by rw [if_neg (show ¬ (false = true) by decide)] at H; exact H
           clear H
           have H := H1
           clear H1
           have HC17 := yM H
           clear H
           go_upto_region 16 with (fail)
           go_cut [36] (fun v36 wc => ∃ (kq : Nat) (x36_16 : Bool), v36 = .bool x36_16 ∧ Aside0 (U_follow.j2 kq a0 a1 (wrap64 (bt a0 a1)) 128 191 x36_16 = some r) ∧ Aside0 (kq ≤ kj10) ∧ Drawn0 w wc)
           case first =>
            have H := HC17.out
            clear HC17
            by_cases c18 : (wrap64 (bt a0 a1)) ≥ 240
            ·rw [if_pos c18] at H
             have c18b0 : decide (240 ≤ (wrap64 (bt a0 a1))) = true := decide_eq_true c18
             clear c18
             (first | rw [c18b0] | (simp only [i64_w, i32_w]; rw [c18b0]) | skip)
             have H' := yM H
             clear H
             go_wp2
             go_meet
             case rel => exact ⟨_, (decide ((wrap64 (bt a0 a1)) ≤ 244)), (by first | rfl | (simp; done) | (simp [*]; done)), H', ⟨by have := HJ7.out; have := HJ10.out; first | omega | exact Nat.le_refl _⟩, by repeat (first | exact Drawn0.refl _ | apply Drawn0.step)⟩
            ·rw [if_neg c18] at H
             have c18b0 : decide (240 ≤ (wrap64 (bt a0 a1))) = false := decide_eq_false c18
             clear c18
             (first | rw [c18b0] | (simp only [i64_w, i32_w]; rw [c18b0]) | skip)
             have H' := yM H
             clear H
             go_wp2
             go_meet
             case rel => exact ⟨_, (false), (by first | rfl | (simp; done) | (simp [*]; done)), H', ⟨by have := HJ7.out; have := HJ10.out; first | omega | exact Nat.le_refl _⟩, by repeat (first | exact Drawn0.refl _ | apply Drawn0.step)⟩
           case rest =>
            clear HC17
            obtain ⟨kq, x36_16, rfl, HA, HJ16, ⟨mc16, rfl⟩⟩ := hcut
            cases kq with
            | zero => exact absurd HA.out (by simp [U_follow.j2])
            | succ kj16 =>
             have H := HA.out
             clear HA
             simp only [U_follow.j2] at H
             by_cases c19 : x36_16 = true
             ·subst c19
              have H1 : (if (wrap64 (bt a0 a1)) = 240 then (if (wrap64 (bt a0 a1)) = 244 then (U_follow.j3 kj16 a0 a1 4 144 143) else (U_follow.j3 kj16 a0 a1 4 144 191)) else (if (wrap64 (bt a0 a1)) = 244 then (U_follow.j3 kj16 a0 a1 4 128 143) else (U_follow.j3 kj16 a0 a1 4 128 191))) = some r := by rw [if_pos rfl] at H; exact H
              clear H
              have H := H1
              clear H1
              by_cases c20 : (wrap64 (bt a0 a1)) = 240
              ·rw [if_pos c20] at H
               have c20b0 : ((wrap64 (bt a0 a1)) == 240) = true := beq_iff_eq.mpr c20
               have c20b1 : ((wrap64 (bt a0 a1)) != 240) = false := bne_eq_false_iff_eq.mpr c20
               clear c20
               by_cases c21 : (wrap64 (bt a0 a1)) = 244
               ·rw [if_pos c21] at H
                have c21b0 : ((wrap64 (bt a0 a1)) == 244) = true := beq_iff_eq.mpr c21
                have c21b1 : ((wrap64 (bt a0 a1)) != 244) = false := bne_eq_false_iff_eq.mpr c21
                clear c21
                have H' := yM H
                clear H
                go_wp2
                go_meet
                case rel => exact ⟨_, (4), (144), (143), (by first | rfl | (simp; done) | (simp [*]; done)), (by first | rfl | (simp; done) | (simp [*]; done)), (by first | rfl | (simp; done) | (simp [*]; done)), H', ⟨by have := HJ7.out; have := HJ10.out; have := HJ16.out; first | omega | exact Nat.le_refl _⟩, by repeat (first | exact Drawn0.refl _ | apply Drawn0.step)⟩
               ·rw [if_neg c21] at H
                have c21b0 : ((wrap64 (bt a0 a1)) == 244) = false := yB c21
                have c21b1 : ((wrap64 (bt a0 a1)) != 244) = true := bne_iff_ne.mpr c21
                have H' := yM H
                clear H
                go_wp2
                go_meet
                case rel => exact ⟨_, (4), (144), (191), (by first | rfl | (simp; done) | (simp [*]; done)), (by first | rfl | (simp; done) | (simp [*]; done)), (by first | rfl | (simp; done) | (simp [*]; done)), H', ⟨by have := HJ7.out; have := HJ10.out; have := HJ16.out; first | omega | exact Nat.le_refl _⟩, by repeat (first | exact Drawn0.refl _ | apply Drawn0.step)⟩
              ·rw [if_neg c20] at H
               have c20b0 : ((wrap64 (bt a0 a1)) == 240) = false := yB c20
               have c20b1 : ((wrap64 (bt a0 a1)) != 240) = true := bne_iff_ne.mpr c20
               by_cases c22 : (wrap64 (bt a0 a1)) = 244
               ·rw [if_pos c22] at H
                have c22b0 : ((wrap64 (bt a0 a1)) == 244) = true := beq_iff_eq.mpr c22
                have c22b1 : ((wrap64 (bt a0 a1)) != 244) = false := bne_eq_false_iff_eq.mpr c22
                clear c22
                have H' := yM H
                clear H
                go_wp2
                go_meet
                case rel => exact ⟨_, (4), (128), (143), (by first | rfl | (simp; done) | (simp [*]; done)), (by first | rfl | (simp; done) | (simp [*]; done)), (by first | rfl | (simp; done) | (simp [*]; done)), H', ⟨by have := HJ7.out; have := HJ10.out; have := HJ16.out; first | omega | exact Nat.le_refl _⟩, by repeat (first | exact Drawn0.refl _ | apply Drawn0.step)⟩
               ·rw [if_neg c22] at H
                have c22b0 : ((wrap64 (bt a0 a1)) == 244) = false := yB c22
                have c22b1 : ((wrap64 (bt a0 a1)) != 244) = true := bne_iff_ne.mpr c22
                have H' := yM H
                clear H
                go_wp2
                go_meet
                case rel => exact ⟨_, (4), (128), (191), (by first | rfl | (simp; done) | (simp [*]; done)), (by first | rfl | (simp; done) | (simp [*]; done)), (by first | rfl | (simp; done) | (simp [*]; done)), H', ⟨by have := HJ7.out; have := HJ10.out; have := HJ16.out; first | omega | exact Nat.le_refl _⟩, by repeat (first | exact Drawn0.refl _ | apply Drawn0.step)⟩
             ·replace c19 := Bool.eq_false_iff.mpr c19
              subst c19
              have H1 : (some 0) = some r := by rw [if_neg (show ¬ (false = true) by decide)] at H; exact H
              clear H
              have H := H1
              clear H1
              obtain rfl := Option.some.inj H
              go_wp2
              go_ret
              exact ⟨by first | rfl | (simp; done) | (simp [*]; done), by repeat (first | exact Drawn0.refl _ | apply Drawn0.step)⟩
   case rest =>
    clear HC6
    obtain ⟨kq, x6_5, x7_5, x8_5, rfl, rfl, rfl, HA, HJ5, ⟨mc5, rfl⟩⟩ := hcut
    cases kq with
    | zero => exact absurd HA.out (by simp [U_follow.j3])
    | succ kj5 =>
     have H := HA.out
     clear HA
     simp only [U_follow.j3] at H
     by_cases c23 : (wrap64 (a1 + x6_5)) > (a0.size : Int)
     ·rw [if_pos c23] at H
      have c23b0 : decide ((a0.size : Int) < (wrap64 (a1 + x6_5))) = true := decide_eq_true c23
      clear c23
      obtain rfl := Option.some.inj H
      go_wp2
      go_ret
      exact ⟨by first | rfl | (simp; done) | (simp [*]; done), by repeat (first | exact Drawn0.refl _ | apply Drawn0.step)⟩
     ·rw [if_neg c23] at H
      have c23b0 : decide ((a0.size : Int) < (wrap64 (a1 + x6_5))) = false := decide_eq_false c23
      clear c23
      have H' := yM H
      clear H
      go_wp2
      go_loopg [7, 8, 9] kj5 (fun kq v7 v8 v9 w' => ∃ (x7_2 : Int) (x8_2 : Int) (x9_2 : Int), v7 = .int .i64 x7_2 ∧ v8 = .int .i64 x8_2 ∧ v9 = .int .i64 x9_2 ∧ Aside0 (U_follow.l0 kq a0 a1 x6_5 x7_2 x8_2 x9_2 = some r) ∧ Aside0 (kq ≤ kj5) ∧ Drawn0 w w')
      case atStart => exact ⟨(x7_5), (x8_5), (1), (by first | rfl | (simp; done) | (simp [*]; done)), (by first | rfl | (simp; done) | (simp [*]; done)), (by first | rfl | (simp; done) | (simp [*]; done)), H', ⟨Nat.le_refl _⟩, by repeat (first | exact Drawn0.refl _ | apply Drawn0.step)⟩
      case round =>
       clear H'
       obtain ⟨x7_2, x8_2, x9_2, rfl, rfl, rfl, HA, HK2, ⟨m2, rfl⟩⟩ := hrel
       cases gk with
       | zero => exact absurd HA.out (by simp [U_follow.l0])
       | succ k2 =>
        have H := HA.out
        clear HA
        simp only [U_follow.l0] at H
        by_cases c24 : x9_2 < x6_5
        ·rw [if_pos c24] at H
         have c24b0 : decide (x9_2 < x6_5) = true := decide_eq_true c24
         clear c24
         obtain ⟨ji25, hji25⟩ : ∃ j_ : Int, (wrap64 (a1 + x9_2)) = j_ := ⟨_, rfl⟩
         replace H : (if 0 ≤ (ji25) then (if (ji25) < (a0.size : Int) then (if (wrap64 (bt a0 (ji25))) < x7_2 then (some 0) else (if (wrap64 (bt a0 (ji25))) > x8_2 then (some 0) else (U_follow.l0 k2 a0 a1 x6_5 128 191 (wrap64 (x9_2 + 1))))) else (none)) else (none)) = some r := by first | (rw [hji25] at H; exact H) | (simp only [hji25] at H ⊢; exact H)
         have hji25w : (IntKind.i64.wrap (a1 + x9_2)) = ji25 := (i64_w _).trans hji25
         by_cases c26 : 0 ≤ (ji25)
         ·rw [if_pos c26] at H
          have c26b0 : decide (0 ≤ (ji25)) = true := decide_eq_true c26
          clear c26
          by_cases c27 : (ji25) < (a0.size : Int)
          ·rw [if_pos c27] at H
           have c27b0 : decide ((ji25) < (a0.size : Int)) = true := decide_eq_true c27
           clear c27
           by_cases c29 : (wrap64 (bt a0 (ji25))) < x7_2
           ·rw [if_pos c29] at H
            have c29b0 : decide ((wrap64 (bt a0 (ji25))) < x7_2) = true := decide_eq_true c29
            clear c29
            obtain rfl := Option.some.inj H
            have p28 : 0 ≤ ((ji25) : Int) := yQ (by first | (with_reducible assumption) | assumption)
            have q28 : (ji25) < (a0.size : Int) := yQ (by first | (with_reducible assumption) | assumption)
            have hx28 := bt_at a0 (ji25)
            replace p28 := eq_true p28
            replace q28 := eq_true q28
            go_wp2
            go_ret
            exact ⟨by first | rfl | (simp; done) | (simp only [← hji25] <;> (first | rfl | simp)) | (simp [*]; done), by repeat (first | exact Drawn0.refl _ | apply Drawn0.step)⟩
           ·rw [if_neg c29] at H
            have c29b0 : decide ((wrap64 (bt a0 (ji25))) < x7_2) = false := decide_eq_false c29
            clear c29
            by_cases c30 : (wrap64 (bt a0 (ji25))) > x8_2
            ·rw [if_pos c30] at H
             have c30b0 : decide (x8_2 < (wrap64 (bt a0 (ji25)))) = true := decide_eq_true c30
             clear c30
             obtain rfl := Option.some.inj H
             have p28 : 0 ≤ ((ji25) : Int) := yQ (by first | (with_reducible assumption) | assumption)
             have q28 : (ji25) < (a0.size : Int) := yQ (by first | (with_reducible assumption) | assumption)
             have hx28 := bt_at a0 (ji25)
             replace p28 := eq_true p28
             replace q28 := eq_true q28
             go_wp2
             go_ret
             exact ⟨by first | rfl | (simp; done) | (simp only [← hji25] <;> (first | rfl | simp)) | (simp [*]; done), by repeat (first | exact Drawn0.refl _ | apply Drawn0.step)⟩
            ·rw [if_neg c30] at H
             have c30b0 : decide (x8_2 < (wrap64 (bt a0 (ji25)))) = false := decide_eq_false c30
             clear c30
             have H' := yM H
             clear H
             have p28 : 0 ≤ ((ji25) : Int) := yQ (by first | (with_reducible assumption) | assumption)
             have q28 : (ji25) < (a0.size : Int) := yQ (by first | (with_reducible assumption) | assumption)
             have hx28 := bt_at a0 (ji25)
             replace p28 := eq_true p28
             replace q28 := eq_true q28
             go_wp2
             go_roundg k2
             case measure => have := HJ5.out; have := HK2.out; omega
             case rel => exact ⟨(128), (191), (wrap64 (x9_2 + 1)), (by first | rfl | (simp; done) | (simp [*]; done)), (by first | rfl | (simp; done) | (simp [*]; done)), (by first | rfl | (simp; done) | (simp [*]; done)), H', ⟨by have := HJ5.out; have := HK2.out; omega⟩, by repeat (first | exact Drawn0.refl _ | apply Drawn0.step)⟩
          ·rw [if_neg c27] at H
           exact absurd H (by simp)
         ·rw [if_neg c26] at H
          exact absurd H (by simp)
        ·rw [if_neg c24] at H
         have c24b0 : decide (x9_2 < x6_5) = false := decide_eq_false c24
         clear c24
         obtain rfl := Option.some.inj H
         go_wp2
         go_ret
         exact ⟨by first | rfl | (simp; done) | (simp [*]; done), by repeat (first | exact Drawn0.refl _ | apply Drawn0.step)⟩
  ·rw [if_neg c4] at H
   exact absurd H (by simp)
 ·rw [if_neg c3] at H
  exact absurd H (by simp)
def U_Utf8.l0 : Nat → ByteArray → Int → Option (Int)
 | 0, _, _ => none
 | k + 1, x0, x3 => if x3 < (x0.size : Int) then ((U_follow.f k x0 x3).bind fun t102 => (if t102 = 0 then (some x3) else (U_Utf8.l0 k x0 (wrap64 (x3 + t102))))) else (some (-1))
def U_Utf8.f (k : Nat) (a0 : ByteArray) : Option (Int) := U_Utf8.l0 k a0 0
set_option maxHeartbeats 8000000 in
set_option maxRecDepth 100000 in
theorem U_Utf8.calls (k : Nat) (a0 : ByteArray) (r : Int) (w : World) (h : U_Utf8.f k a0 = some r) :
  Calls Tryd.prog 31 #[.string a0] w fun e w' => e = .returned (.int .i64 r) ∧ Drawn0 w w' := by
 have H : (U_Utf8.l0 k a0 0) = some r := h
 clear h
 have H' := yM H
 clear H
 go_enter Tryd.func31, Tryd.ntmps31
 go_wp2
 go_loopg [3] k (fun kq v3 w' => ∃ (x3_1 : Int), v3 = .int .i64 x3_1 ∧ Aside0 (U_Utf8.l0 kq a0 x3_1 = some r) ∧ Aside0 (kq ≤ k) ∧ Drawn0 w w')
 case atStart => exact ⟨(0), (by first | rfl | (simp; done) | (simp [*]; done)), H', ⟨Nat.le_refl _⟩, by repeat (first | exact Drawn0.refl _ | apply Drawn0.step)⟩
 case round =>
  clear H'
  obtain ⟨x3_1, rfl, HA, HK1, ⟨m1, rfl⟩⟩ := hrel
  cases gk with
  | zero => exact absurd HA.out (by simp [U_Utf8.l0])
  | succ k1 =>
   have H := HA.out
   clear HA
   simp only [U_Utf8.l0] at H
   by_cases c2 : x3_1 < (a0.size : Int)
   ·rw [if_pos c2] at H
    have c2b0 : decide (x3_1 < (a0.size : Int)) = true := decide_eq_true c2
    clear c2
    replace H := yO H
    obtain ⟨t102, A30, H⟩ := H
    replace H : (if t102 = 0 then (some x3_1) else (U_Utf8.l0 k1 a0 (wrap64 (x3_1 + t102)))) = some r := H
    have A3 := yM A30
    clear A30
    by_cases c4 : t102 = 0
    ·rw [if_pos c4] at H
     have c4b0 : (t102 == 0) = true := beq_iff_eq.mpr c4
     have c4b1 : (t102 != 0) = false := bne_eq_false_iff_eq.mpr c4
     clear c4
     obtain rfl := Option.some.inj H
     go_wp2_with (first | ((with_reducible refine gate_callee (f := 43) rfl ?_); refine goesL_ (some 11) rfl rfl Tryd.func43 (by kernel_rfl) rfl #[.string a0, .int .i64 x3_1] rfl (by (try simp only [List.map_toArray, List.map_cons, List.map_nil]); first | done | rfl | (simp only [List.length_drop, List.length_take]; rfl)) ?_; (with_reducible refine (U_follow.calls k1 a0 x3_1 t102 _ A3.out).mono ?_); rintro e w' ⟨rfl, ⟨nd, rfl⟩⟩; refine ⟨_, rfl, ?_⟩))
     go_ret
     exact ⟨by first | rfl | (simp; done) | (simp [*]; done), by repeat (first | exact Drawn0.refl _ | apply Drawn0.step)⟩
    ·rw [if_neg c4] at H
     have c4b0 : (t102 == 0) = false := yB c4
     have c4b1 : (t102 != 0) = true := bne_iff_ne.mpr c4
     have H' := yM H
     clear H
     go_wp2_with (first | ((with_reducible refine gate_callee (f := 43) rfl ?_); refine goesL_ (some 11) rfl rfl Tryd.func43 (by kernel_rfl) rfl #[.string a0, .int .i64 x3_1] rfl (by (try simp only [List.map_toArray, List.map_cons, List.map_nil]); first | done | rfl | (simp only [List.length_drop, List.length_take]; rfl)) ?_; (with_reducible refine (U_follow.calls k1 a0 x3_1 t102 _ A3.out).mono ?_); rintro e w' ⟨rfl, ⟨nd, rfl⟩⟩; refine ⟨_, rfl, ?_⟩))
     go_roundg k1
     case measure => have := HK1.out; omega
     case rel => exact ⟨(wrap64 (x3_1 + t102)), (by first | rfl | (simp; done) | (simp [*]; done)), H', ⟨by have := HK1.out; omega⟩, by repeat (first | exact Drawn0.refl _ | apply Drawn0.step)⟩
   ·rw [if_neg c2] at H
    have c2b0 : decide (x3_1 < (a0.size : Int)) = false := decide_eq_false c2
    clear c2
    obtain rfl := Option.some.inj H
    go_wp2
    go_ret
    exact ⟨by first | rfl | (simp; done) | (simp [*]; done), by repeat (first | exact Drawn0.refl _ | apply Drawn0.step)⟩
def IsS79 (w0 W : World) (g : Nat) (f0 : ByteArray) (f1 : Int) (f2 : Int) (f3 : Int) : Prop := W.heap[g]? = some (.cells #[.string f0, .int .i64 f1, .int .i64 f2, .int .i64 f3] 79 (0, 0)) ∧ w0.heap.size ≤ g
theorem IsS79.grown {w0 W : World} {g : Nat} {f0 : ByteArray} {f1 : Int} {f2 : Int} {f3 : Int} {W1 : World} {row : Option Nat} (h : IsS79 w0 W g f0 f1 f2 f3) (hw : W.grownBy W1 row) (hne : some g ≠ row) : IsS79 w0 W1 g f0 f1 f2 f3 := by
 obtain ⟨hb, hg⟩ := h
 exact ⟨blk_grown hb hw hne, hg⟩
theorem IsS79.kept {w0 W : World} {g : Nat} {f0 : ByteArray} {f1 : Int} {f2 : Int} {f3 : Int} {W1 : World} {S : Nat → Prop} (h : IsS79 w0 W g f0 f1 f2 f3) (hk : Kept W W1 S) (hne : ¬ S g) : IsS79 w0 W1 g f0 f1 f2 f3 := by
 obtain ⟨hb, hg⟩ := h
 exact ⟨blk_kept hb hk hne, hg⟩
theorem IsS79.below {w0 W : World} {g : Nat} {f0 : ByteArray} {f1 : Int} {f2 : Int} {f3 : Int} {W1 : World} (h : IsS79 w0 W g f0 f1 f2 f3) (hw : Below W.heap.size W W1) : IsS79 w0 W1 g f0 f1 f2 f3 := h.grown (grown_of_below hw none) (by simp)
theorem IsS79.alloc {w0 W : World} {g : Nat} {f0 : ByteArray} {f1 : Int} {f2 : Int} {f3 : Int} (h : IsS79 w0 W g f0 f1 f2 f3) (o : Obj) : IsS79 w0 (W.alloc o) g f0 f1 f2 f3 := h.below (zA (Below.refl _ _) o)
theorem IsS79.drewN {w0 W : World} {g : Nat} {f0 : ByteArray} {f1 : Int} {f2 : Int} {f3 : Int} (h : IsS79 w0 W g f0 f1 f2 f3) (m : Nat) : IsS79 w0 (W.drewN m) g f0 f1 f2 f3 := h
theorem IsS79.drew {w0 W : World} {g : Nat} {f0 : ByteArray} {f1 : Int} {f2 : Int} {f3 : Int} (h : IsS79 w0 W g f0 f1 f2 f3) : IsS79 w0 W.drew g f0 f1 f2 f3 := h
theorem IsS79.at_ {w0 W : World} {g : Nat} {f0 : ByteArray} {f1 : Int} {f2 : Int} {f3 : Int} {w' : World} {m : Nat} (hq : W.drewN m = w') (h : IsS79 w0 W g f0 f1 f2 f3) : IsS79 w0 w' g f0 f1 f2 f3 := by subst hq; exact IsS79.drewN h m
theorem IsS79.apart {w0 W : World} {g : Nat} {f0 : ByteArray} {f1 : Int} {f2 : Int} {f3 : Int} {α : Type} {d : Kd α} {e : Nat} {base : Nat} {ok : Nat → Prop} {v : Value} {xs : List α} (h : IsS79 w0 W g f0 f1 f2 f3) (ho : d.R e W base ok v xs) (ht : ∀ q, q ∈ e :: d.E → q ≠ 79) : d.R e W base (fun k => ok k ∧ k ≠ g) v xs := by
 obtain ⟨hb, hg⟩ := h
 exact Kd.R_types ho hb ht
theorem IsS79.own_ne {w0 W : World} {g : Nat} {f0 : ByteArray} {f1 : Int} {f2 : Int} {f3 : Int} {α : Type} {d : Kd α} {e : Nat} {base : Nat} {ok : Nat → Prop} {v : Value} {xs : List α} (h : IsS79 w0 W g f0 f1 f2 f3) (ho : d.R e W base ok v xs) (ht : e ≠ 79) : some g ≠ v.ownBlock := by
 obtain ⟨hb, hg⟩ := h
 exact Kd.R_ne ho hb ht
theorem IsS79.lt {w0 W : World} {g : Nat} {f0 : ByteArray} {f1 : Int} {f2 : Int} {f3 : Int} (h : IsS79 w0 W g f0 f1 f2 f3) : g < W.heap.size := by
 obtain ⟨hb, hg⟩ := h
 exact blk_lt hb
theorem IsS79.ge {w0 W : World} {g : Nat} {f0 : ByteArray} {f1 : Int} {f2 : Int} {f3 : Int} (h : IsS79 w0 W g f0 f1 f2 f3) : w0.heap.size ≤ g := by
 obtain ⟨hb, hg⟩ := h
 exact hg
theorem IsS79.far {w0 W : World} {g : Nat} {f0 : ByteArray} {f1 : Int} {f2 : Int} {f3 : Int} {p : Addr} (h : IsS79 w0 W g f0 f1 f2 f3) (hne : g ≠ p.block) (u : Value) : IsS79 w0 (W.setCell p u) g f0 f1 f2 f3 := by
 obtain ⟨hb, hg⟩ := h
 exact ⟨yR hb hne u, hg⟩
theorem cellS79_0 {W : World} {g : Nat} {f0 : ByteArray} {f1 : Int} {f2 : Int} {f3 : Int} (h : W.heap[g]? = some (.cells #[.string f0, .int .i64 f1, .int .i64 f2, .int .i64 f3] 79 (0, 0))) : W.cell? ⟨g, 0, none⟩ = some (.string f0) := (yC h 0).trans rfl
theorem IsS79.set_0 {w0 W : World} {g : Nat} {f0 : ByteArray} {f1 : Int} {f2 : Int} {f3 : Int} (h : IsS79 w0 W g f0 f1 f2 f3) (x : ByteArray) : IsS79 w0 (W.setCell ⟨g, 0, none⟩ (.string x)) g x f1 f2 f3 := by
 obtain ⟨hb, hg⟩ := h
 exact ⟨by simpa using blk_set hb 0 (.string x), hg⟩
theorem cellS79_1 {W : World} {g : Nat} {f0 : ByteArray} {f1 : Int} {f2 : Int} {f3 : Int} (h : W.heap[g]? = some (.cells #[.string f0, .int .i64 f1, .int .i64 f2, .int .i64 f3] 79 (0, 0))) : W.cell? ⟨g, 1, none⟩ = some (.int .i64 f1) := (yC h 1).trans rfl
theorem IsS79.set_1 {w0 W : World} {g : Nat} {f0 : ByteArray} {f1 : Int} {f2 : Int} {f3 : Int} (h : IsS79 w0 W g f0 f1 f2 f3) (x : Int) : IsS79 w0 (W.setCell ⟨g, 1, none⟩ (.int .i64 x)) g f0 x f2 f3 := by
 obtain ⟨hb, hg⟩ := h
 exact ⟨by simpa using blk_set hb 1 (.int .i64 x), hg⟩
theorem cellS79_2 {W : World} {g : Nat} {f0 : ByteArray} {f1 : Int} {f2 : Int} {f3 : Int} (h : W.heap[g]? = some (.cells #[.string f0, .int .i64 f1, .int .i64 f2, .int .i64 f3] 79 (0, 0))) : W.cell? ⟨g, 2, none⟩ = some (.int .i64 f2) := (yC h 2).trans rfl
theorem IsS79.set_2 {w0 W : World} {g : Nat} {f0 : ByteArray} {f1 : Int} {f2 : Int} {f3 : Int} (h : IsS79 w0 W g f0 f1 f2 f3) (x : Int) : IsS79 w0 (W.setCell ⟨g, 2, none⟩ (.int .i64 x)) g f0 f1 x f3 := by
 obtain ⟨hb, hg⟩ := h
 exact ⟨by simpa using blk_set hb 2 (.int .i64 x), hg⟩
theorem cellS79_3 {W : World} {g : Nat} {f0 : ByteArray} {f1 : Int} {f2 : Int} {f3 : Int} (h : W.heap[g]? = some (.cells #[.string f0, .int .i64 f1, .int .i64 f2, .int .i64 f3] 79 (0, 0))) : W.cell? ⟨g, 3, none⟩ = some (.int .i64 f3) := (yC h 3).trans rfl
theorem IsS79.set_3 {w0 W : World} {g : Nat} {f0 : ByteArray} {f1 : Int} {f2 : Int} {f3 : Int} (h : IsS79 w0 W g f0 f1 f2 f3) (x : Int) : IsS79 w0 (W.setCell ⟨g, 3, none⟩ (.int .i64 x)) g f0 f1 f2 x := by
 obtain ⟨hb, hg⟩ := h
 exact ⟨by simpa using blk_set hb 3 (.int .i64 x), hg⟩
theorem wA {w0 W : World} {g : Nat} {f0 : ByteArray} {f1 : Int} {f2 : Int} {f3 : Int} (h : IsS79 w0 W g f0 f1 f2 f3) (o : Obj) : IsS79 w0 (W.alloc o) g f0 f1 f2 f3 := IsS79.alloc h o
theorem wN {w0 W : World} {g : Nat} {f0 : ByteArray} {f1 : Int} {f2 : Int} {f3 : Int} (h : IsS79 w0 W g f0 f1 f2 f3) (m : Nat) : IsS79 w0 (W.drewN m) g f0 f1 f2 f3 := IsS79.drewN h m
theorem wD {w0 W : World} {g : Nat} {f0 : ByteArray} {f1 : Int} {f2 : Int} {f3 : Int} (h : IsS79 w0 W g f0 f1 f2 f3) : IsS79 w0 W.drew g f0 f1 f2 f3 := IsS79.drew h
theorem w_0 {w0 W : World} {g : Nat} {f0 : ByteArray} {f1 : Int} {f2 : Int} {f3 : Int} (h : IsS79 w0 W g f0 f1 f2 f3) (x : ByteArray) : IsS79 w0 (W.setCell ⟨g, 0, none⟩ (.string x)) g x f1 f2 f3 := IsS79.set_0 h x
theorem w_1 {w0 W : World} {g : Nat} {f0 : ByteArray} {f1 : Int} {f2 : Int} {f3 : Int} (h : IsS79 w0 W g f0 f1 f2 f3) (x : Int) : IsS79 w0 (W.setCell ⟨g, 1, none⟩ (.int .i64 x)) g f0 x f2 f3 := IsS79.set_1 h x
theorem w_2 {w0 W : World} {g : Nat} {f0 : ByteArray} {f1 : Int} {f2 : Int} {f3 : Int} (h : IsS79 w0 W g f0 f1 f2 f3) (x : Int) : IsS79 w0 (W.setCell ⟨g, 2, none⟩ (.int .i64 x)) g f0 f1 x f3 := IsS79.set_2 h x
theorem w_3 {w0 W : World} {g : Nat} {f0 : ByteArray} {f1 : Int} {f2 : Int} {f3 : Int} (h : IsS79 w0 W g f0 f1 f2 f3) (x : Int) : IsS79 w0 (W.setCell ⟨g, 3, none⟩ (.int .i64 x)) g f0 f1 f2 x := IsS79.set_3 h x
theorem wR {w0 W : World} {g : Nat} {f0 : ByteArray} {f1 : Int} {f2 : Int} {f3 : Int} {p : Addr} (h : IsS79 w0 W g f0 f1 f2 f3) (hne : g ≠ p.block) (u : Value) : IsS79 w0 (W.setCell p u) g f0 f1 f2 f3 := IsS79.far h hne u
theorem wG {w0 W : World} {g : Nat} {f0 : ByteArray} {f1 : Int} {f2 : Int} {f3 : Int} (h : IsS79 w0 W g f0 f1 f2 f3) : w0.heap.size ≤ g := IsS79.ge h
theorem IsS79.new (w0 W : World) (f0 : ByteArray) (f1 : Int) (f2 : Int) (f3 : Int) (hB : Below w0.heap.size w0 W) : IsS79 w0 (W.alloc (.cells #[.string f0, .int .i64 f1, .int .i64 f2, .int .i64 f3] 79)) W.heap.size f0 f1 f2 f3 := ⟨by simpa using heap_alloc_new W _, hB.size⟩
def T_blanks.l0 : Nat → ByteArray → Int → Int → Int → Option (ByteArray × Int × Int × Int)
 | 0, _, _, _, _ => none
 | k + 1, x1000, x1001, x1002, x1003 => if x1001 < (x1000.size : Int) then (if 0 ≤ x1001 then (if (bt x1000 x1001) = 32 then (T_blanks.l0 k x1000 (wrap64 (x1001 + 1)) x1002 x1003) else (if (bt x1000 x1001) = 9 then (T_blanks.l0 k x1000 (wrap64 (x1001 + 1)) x1002 x1003) else (if (bt x1000 x1001) = 10 then (T_blanks.l0 k x1000 (wrap64 (x1001 + 1)) x1002 x1003) else (if (bt x1000 x1001) = 13 then (T_blanks.l0 k x1000 (wrap64 (x1001 + 1)) x1002 x1003) else (some (x1000, x1001, x1002, x1003)))))) else (none)) else (some (x1000, x1001, x1002, x1003))
def T_blanks.f (k : Nat) (s0_0 : ByteArray) (s0_1 : Int) (s0_2 : Int) (s0_3 : Int) : Option (ByteArray × Int × Int × Int) := T_blanks.l0 k s0_0 s0_1 s0_2 s0_3
set_option maxHeartbeats 8000000 in
set_option maxRecDepth 100000 in
theorem T_blanks.calls (k : Nat) (g : Nat) (s0_0 : ByteArray) (s0_1 : Int) (s0_2 : Int) (s0_3 : Int) (r1 : ByteArray) (r2 : Int) (r3 : Int) (r4 : Int) (w0 w : World) (hI : IsS79 w0 w g s0_0 s0_1 s0_2 s0_3) (hB : Below w0.heap.size w0 w) (h : T_blanks.f k s0_0 s0_1 s0_2 s0_3 = some (r1, r2, r3, r4)) :
  Calls Tryd.prog 48 #[.pointer (some ⟨g, 0, none⟩)] w fun e w' => e = .returned (.tuple #[]) ∧ IsS79 w0 w' g r1 r2 r3 r4 ∧ Below w0.heap.size w0 w' ∧ KeepBut w w' g none := by
 have HI0 := yM hI
 have HK := yM (KeepBut.refl w g none)
 have HL := yM hB.size
 clear hI
 have HW0 := yM hB.size
 have HB := yM hB
 clear hB
 have H : (T_blanks.l0 k s0_0 s0_1 s0_2 s0_3) = some (r1, r2, r3, r4) := h
 clear h
 have H' := yM H
 clear H
 go_enter Tryd.func48, Tryd.ntmps48
 go_wp2
 repeat (go_quiet (fail); try go_wp2)
 go_loopg [] k (fun kq w' => ∃ (x1001_1 : Int), Aside0 (T_blanks.l0 kq s0_0 x1001_1 s0_2 s0_3 = some (r1, r2, r3, r4)) ∧ Aside0 (kq ≤ k) ∧ Aside0 (IsS79 w0 w' g s0_0 x1001_1 s0_2 s0_3) ∧ Aside0 (KeepBut w w' g none) ∧ Aside0 (Below w0.heap.size w0 w'))
 case atStart => exact ⟨(s0_1), H', ⟨Nat.le_refl _⟩, ⟨by repeat (first | (with_reducible first | exact HI0.out | apply wA | apply wN | apply wD | apply w_0 | apply w_1 | apply w_2 | apply w_3) | exact HI0.out)⟩, ⟨by repeat (first | (with_reducible first | exact HK.out | apply yK | apply zk | apply zl9 | apply zm) | exact HK.out)⟩, ⟨by repeat (first | (with_reducible first | exact HB.out | apply zA | apply zN | apply zD | refine zq9 ?_ (wG HI0.out)) | exact HB.out)⟩⟩
 case round =>
  clear H'
  obtain ⟨x1001_1, HA, HK1, HI0, HK, HB⟩ := hrel
  cases gk with
  | zero => exact absurd HA.out (by simp [T_blanks.l0])
  | succ k1 =>
   have H := HA.out
   clear HA
   simp only [T_blanks.l0] at H
   by_cases c2 : x1001_1 < (s0_0.size : Int)
   ·rw [if_pos c2] at H
    have c2b0 : decide (x1001_1 < (s0_0.size : Int)) = true := decide_eq_true c2
    clear c2
    by_cases c3 : 0 ≤ x1001_1
    ·rw [if_pos c3] at H
     have c3b0 : decide (0 ≤ x1001_1) = true := decide_eq_true c3
     clear c3
     by_cases c5 : (bt s0_0 x1001_1) = 32
     ·rw [if_pos c5] at H
      have c5b0 : ((bt s0_0 x1001_1) == 32) = true := beq_iff_eq.mpr c5
      have c5b1 : ((bt s0_0 x1001_1) != 32) = false := bne_eq_false_iff_eq.mpr c5
      clear c5
      have H' := yM H
      clear H
      obtain ⟨HGz6, hgz6⟩ := HI0.out
      have hcz6_0 := cellS79_0 HGz6
      have hcz6_1 := cellS79_1 HGz6
      have hcz6_2 := cellS79_2 HGz6
      have hcz6_3 := cellS79_3 HGz6
      have hfz6_0 := yF HGz6 0
      have hfz6_1 := yF HGz6 1
      have hfz6_2 := yF HGz6 2
      have hfz6_3 := yF HGz6 3
      clear HGz6 hgz6
      have p4 : 0 ≤ (x1001_1 : Int) := yQ (by first | (with_reducible assumption) | assumption)
      have q4 : x1001_1 < (s0_0.size : Int) := yQ (by first | (with_reducible assumption) | assumption)
      have hx4 := bt_at s0_0 x1001_1
      replace p4 := eq_true p4
      replace q4 := eq_true q4
      go_wp2
      repeat (go_quiet (fail); try go_wp2)
      go_roundg k1
      case measure => have := HK1.out; omega
      case rel => exact ⟨(wrap64 (x1001_1 + 1)), H', ⟨by have := HK1.out; omega⟩, ⟨by repeat (first | (with_reducible first | exact HI0.out | apply wA | apply wN | apply wD | apply w_0 | apply w_1 | apply w_2 | apply w_3) | exact HI0.out)⟩, ⟨by repeat (first | (with_reducible first | exact HK.out | apply yK | apply zk | apply zl9 | apply zm) | exact HK.out)⟩, ⟨by repeat (first | (with_reducible first | exact HB.out | apply zA | apply zN | apply zD | refine zq9 ?_ (wG HI0.out)) | exact HB.out)⟩⟩
     ·rw [if_neg c5] at H
      have c5b0 : ((bt s0_0 x1001_1) == 32) = false := yB c5
      have c5b1 : ((bt s0_0 x1001_1) != 32) = true := bne_iff_ne.mpr c5
      by_cases c8 : (bt s0_0 x1001_1) = 9
      ·rw [if_pos c8] at H
       have c8b0 : ((bt s0_0 x1001_1) == 9) = true := beq_iff_eq.mpr c8
       have c8b1 : ((bt s0_0 x1001_1) != 9) = false := bne_eq_false_iff_eq.mpr c8
       clear c8
       have H' := yM H
       clear H
       obtain ⟨HGz9, hgz9⟩ := HI0.out
       have hcz9_0 := cellS79_0 HGz9
       have hcz9_1 := cellS79_1 HGz9
       have hcz9_2 := cellS79_2 HGz9
       have hcz9_3 := cellS79_3 HGz9
       have hfz9_0 := yF HGz9 0
       have hfz9_1 := yF HGz9 1
       have hfz9_2 := yF HGz9 2
       have hfz9_3 := yF HGz9 3
       clear HGz9 hgz9
       have p4 : 0 ≤ (x1001_1 : Int) := yQ (by first | (with_reducible assumption) | assumption)
       have q4 : x1001_1 < (s0_0.size : Int) := yQ (by first | (with_reducible assumption) | assumption)
       have hx4 := bt_at s0_0 x1001_1
       replace p4 := eq_true p4
       replace q4 := eq_true q4
       have p7 : 0 ≤ (x1001_1 : Int) := yQ (by first | (with_reducible assumption) | assumption)
       have q7 : x1001_1 < (s0_0.size : Int) := yQ (by first | (with_reducible assumption) | assumption)
       have hx7 := bt_at s0_0 x1001_1
       replace p7 := eq_true p7
       replace q7 := eq_true q7
       go_wp2
       repeat (go_quiet (fail); try go_wp2)
       go_roundg k1
       case measure => have := HK1.out; omega
       case rel => exact ⟨(wrap64 (x1001_1 + 1)), H', ⟨by have := HK1.out; omega⟩, ⟨by repeat (first | (with_reducible first | exact HI0.out | apply wA | apply wN | apply wD | apply w_0 | apply w_1 | apply w_2 | apply w_3) | exact HI0.out)⟩, ⟨by repeat (first | (with_reducible first | exact HK.out | apply yK | apply zk | apply zl9 | apply zm) | exact HK.out)⟩, ⟨by repeat (first | (with_reducible first | exact HB.out | apply zA | apply zN | apply zD | refine zq9 ?_ (wG HI0.out)) | exact HB.out)⟩⟩
      ·rw [if_neg c8] at H
       have c8b0 : ((bt s0_0 x1001_1) == 9) = false := yB c8
       have c8b1 : ((bt s0_0 x1001_1) != 9) = true := bne_iff_ne.mpr c8
       by_cases c11 : (bt s0_0 x1001_1) = 10
       ·rw [if_pos c11] at H
        have c11b0 : ((bt s0_0 x1001_1) == 10) = true := beq_iff_eq.mpr c11
        have c11b1 : ((bt s0_0 x1001_1) != 10) = false := bne_eq_false_iff_eq.mpr c11
        clear c11
        have H' := yM H
        clear H
        obtain ⟨HGz12, hgz12⟩ := HI0.out
        have hcz12_0 := cellS79_0 HGz12
        have hcz12_1 := cellS79_1 HGz12
        have hcz12_2 := cellS79_2 HGz12
        have hcz12_3 := cellS79_3 HGz12
        have hfz12_0 := yF HGz12 0
        have hfz12_1 := yF HGz12 1
        have hfz12_2 := yF HGz12 2
        have hfz12_3 := yF HGz12 3
        clear HGz12 hgz12
        have p4 : 0 ≤ (x1001_1 : Int) := yQ (by first | (with_reducible assumption) | assumption)
        have q4 : x1001_1 < (s0_0.size : Int) := yQ (by first | (with_reducible assumption) | assumption)
        have hx4 := bt_at s0_0 x1001_1
        replace p4 := eq_true p4
        replace q4 := eq_true q4
        have p7 : 0 ≤ (x1001_1 : Int) := yQ (by first | (with_reducible assumption) | assumption)
        have q7 : x1001_1 < (s0_0.size : Int) := yQ (by first | (with_reducible assumption) | assumption)
        have hx7 := bt_at s0_0 x1001_1
        replace p7 := eq_true p7
        replace q7 := eq_true q7
        have p10 : 0 ≤ (x1001_1 : Int) := yQ (by first | (with_reducible assumption) | assumption)
        have q10 : x1001_1 < (s0_0.size : Int) := yQ (by first | (with_reducible assumption) | assumption)
        have hx10 := bt_at s0_0 x1001_1
        replace p10 := eq_true p10
        replace q10 := eq_true q10
        go_wp2
        repeat (go_quiet (fail); try go_wp2)
        go_roundg k1
        case measure => have := HK1.out; omega
        case rel => exact ⟨(wrap64 (x1001_1 + 1)), H', ⟨by have := HK1.out; omega⟩, ⟨by repeat (first | (with_reducible first | exact HI0.out | apply wA | apply wN | apply wD | apply w_0 | apply w_1 | apply w_2 | apply w_3) | exact HI0.out)⟩, ⟨by repeat (first | (with_reducible first | exact HK.out | apply yK | apply zk | apply zl9 | apply zm) | exact HK.out)⟩, ⟨by repeat (first | (with_reducible first | exact HB.out | apply zA | apply zN | apply zD | refine zq9 ?_ (wG HI0.out)) | exact HB.out)⟩⟩
       ·rw [if_neg c11] at H
        have c11b0 : ((bt s0_0 x1001_1) == 10) = false := yB c11
        have c11b1 : ((bt s0_0 x1001_1) != 10) = true := bne_iff_ne.mpr c11
        by_cases c14 : (bt s0_0 x1001_1) = 13
        ·rw [if_pos c14] at H
         have c14b0 : ((bt s0_0 x1001_1) == 13) = true := beq_iff_eq.mpr c14
         have c14b1 : ((bt s0_0 x1001_1) != 13) = false := bne_eq_false_iff_eq.mpr c14
         clear c14
         have H' := yM H
         clear H
         obtain ⟨HGz15, hgz15⟩ := HI0.out
         have hcz15_0 := cellS79_0 HGz15
         have hcz15_1 := cellS79_1 HGz15
         have hcz15_2 := cellS79_2 HGz15
         have hcz15_3 := cellS79_3 HGz15
         have hfz15_0 := yF HGz15 0
         have hfz15_1 := yF HGz15 1
         have hfz15_2 := yF HGz15 2
         have hfz15_3 := yF HGz15 3
         clear HGz15 hgz15
         have p4 : 0 ≤ (x1001_1 : Int) := yQ (by first | (with_reducible assumption) | assumption)
         have q4 : x1001_1 < (s0_0.size : Int) := yQ (by first | (with_reducible assumption) | assumption)
         have hx4 := bt_at s0_0 x1001_1
         replace p4 := eq_true p4
         replace q4 := eq_true q4
         have p7 : 0 ≤ (x1001_1 : Int) := yQ (by first | (with_reducible assumption) | assumption)
         have q7 : x1001_1 < (s0_0.size : Int) := yQ (by first | (with_reducible assumption) | assumption)
         have hx7 := bt_at s0_0 x1001_1
         replace p7 := eq_true p7
         replace q7 := eq_true q7
         have p10 : 0 ≤ (x1001_1 : Int) := yQ (by first | (with_reducible assumption) | assumption)
         have q10 : x1001_1 < (s0_0.size : Int) := yQ (by first | (with_reducible assumption) | assumption)
         have hx10 := bt_at s0_0 x1001_1
         replace p10 := eq_true p10
         replace q10 := eq_true q10
         have p13 : 0 ≤ (x1001_1 : Int) := yQ (by first | (with_reducible assumption) | assumption)
         have q13 : x1001_1 < (s0_0.size : Int) := yQ (by first | (with_reducible assumption) | assumption)
         have hx13 := bt_at s0_0 x1001_1
         replace p13 := eq_true p13
         replace q13 := eq_true q13
         go_wp2
         repeat (go_quiet (fail); try go_wp2)
         go_roundg k1
         case measure => have := HK1.out; omega
         case rel => exact ⟨(wrap64 (x1001_1 + 1)), H', ⟨by have := HK1.out; omega⟩, ⟨by repeat (first | (with_reducible first | exact HI0.out | apply wA | apply wN | apply wD | apply w_0 | apply w_1 | apply w_2 | apply w_3) | exact HI0.out)⟩, ⟨by repeat (first | (with_reducible first | exact HK.out | apply yK | apply zk | apply zl9 | apply zm) | exact HK.out)⟩, ⟨by repeat (first | (with_reducible first | exact HB.out | apply zA | apply zN | apply zD | refine zq9 ?_ (wG HI0.out)) | exact HB.out)⟩⟩
        ·rw [if_neg c14] at H
         have c14b0 : ((bt s0_0 x1001_1) == 13) = false := yB c14
         have c14b1 : ((bt s0_0 x1001_1) != 13) = true := bne_iff_ne.mpr c14
         simp only [Option.some.injEq, Prod.mk.injEq] at H
         obtain ⟨rfl, rfl, rfl, rfl⟩ := H
         obtain ⟨HGz16, hgz16⟩ := HI0.out
         have hcz16_0 := cellS79_0 HGz16
         have hcz16_1 := cellS79_1 HGz16
         have hcz16_2 := cellS79_2 HGz16
         have hcz16_3 := cellS79_3 HGz16
         have hfz16_0 := yF HGz16 0
         have hfz16_1 := yF HGz16 1
         have hfz16_2 := yF HGz16 2
         have hfz16_3 := yF HGz16 3
         clear HGz16 hgz16
         have p4 : 0 ≤ (x1001_1 : Int) := yQ (by first | (with_reducible assumption) | assumption)
         have q4 : x1001_1 < (s0_0.size : Int) := yQ (by first | (with_reducible assumption) | assumption)
         have hx4 := bt_at s0_0 x1001_1
         replace p4 := eq_true p4
         replace q4 := eq_true q4
         have p7 : 0 ≤ (x1001_1 : Int) := yQ (by first | (with_reducible assumption) | assumption)
         have q7 : x1001_1 < (s0_0.size : Int) := yQ (by first | (with_reducible assumption) | assumption)
         have hx7 := bt_at s0_0 x1001_1
         replace p7 := eq_true p7
         replace q7 := eq_true q7
         have p10 : 0 ≤ (x1001_1 : Int) := yQ (by first | (with_reducible assumption) | assumption)
         have q10 : x1001_1 < (s0_0.size : Int) := yQ (by first | (with_reducible assumption) | assumption)
         have hx10 := bt_at s0_0 x1001_1
         replace p10 := eq_true p10
         replace q10 := eq_true q10
         have p13 : 0 ≤ (x1001_1 : Int) := yQ (by first | (with_reducible assumption) | assumption)
         have q13 : x1001_1 < (s0_0.size : Int) := yQ (by first | (with_reducible assumption) | assumption)
         have hx13 := bt_at s0_0 x1001_1
         replace p13 := eq_true p13
         replace q13 := eq_true q13
         go_wp2
         repeat (go_quiet (fail); try go_wp2)
         first | go_end0 | ((try simp only [Exit.inBlock, Exit.then]); refine bodyPost_ret (results_none rfl _ _ _) rfl ?_)
         exact ⟨by first | rfl | (simp [errW_none, errW_some] <;> rfl) | (simp [*, errW_none, errW_some] <;> rfl), by repeat (first | (with_reducible first | exact HI0.out | apply wA | apply wN | apply wD | apply w_0 | apply w_1 | apply w_2 | apply w_3) | exact HI0.out), by repeat (first | (with_reducible first | exact HB.out | apply zA | apply zN | apply zD | refine zq9 ?_ (wG HI0.out)) | exact HB.out), by repeat (first | (with_reducible first | exact HK.out | apply yK | apply zk | apply zl9 | apply zm) | exact HK.out)⟩
    ·rw [if_neg c3] at H
     exact absurd H (by simp)
   ·rw [if_neg c2] at H
    have c2b0 : decide (x1001_1 < (s0_0.size : Int)) = false := decide_eq_false c2
    clear c2
    simp only [Option.some.injEq, Prod.mk.injEq] at H
    obtain ⟨rfl, rfl, rfl, rfl⟩ := H
    obtain ⟨HGz17, hgz17⟩ := HI0.out
    have hcz17_0 := cellS79_0 HGz17
    have hcz17_1 := cellS79_1 HGz17
    have hcz17_2 := cellS79_2 HGz17
    have hcz17_3 := cellS79_3 HGz17
    have hfz17_0 := yF HGz17 0
    have hfz17_1 := yF HGz17 1
    have hfz17_2 := yF HGz17 2
    have hfz17_3 := yF HGz17 3
    clear HGz17 hgz17
    go_wp2
    repeat (go_quiet (fail); try go_wp2)
    first | go_end0 | ((try simp only [Exit.inBlock, Exit.then]); refine bodyPost_ret (results_none rfl _ _ _) rfl ?_)
    exact ⟨by first | rfl | (simp [errW_none, errW_some] <;> rfl) | (simp [*, errW_none, errW_some] <;> rfl), by repeat (first | (with_reducible first | exact HI0.out | apply wA | apply wN | apply wD | apply w_0 | apply w_1 | apply w_2 | apply w_3) | exact HI0.out), by repeat (first | (with_reducible first | exact HB.out | apply zA | apply zN | apply zD | refine zq9 ?_ (wG HI0.out)) | exact HB.out), by repeat (first | (with_reducible first | exact HK.out | apply yK | apply zk | apply zl9 | apply zm) | exact HK.out)⟩
def T_next.f (k : Nat) (s0_0 : ByteArray) (s0_1 : Int) (s0_2 : Int) (s0_3 : Int) : Option (Int × ByteArray × Int × Int × Int) := (T_blanks.f k s0_0 s0_1 s0_2 s0_3).bind fun bt103 => (if bt103.2.1 < (bt103.1.size : Int) then (if 0 ≤ bt103.2.1 then (some (bt bt103.1 bt103.2.1, bt103.1, bt103.2.1, bt103.2.2.1, bt103.2.2.2)) else (none)) else (some (0, bt103.1, bt103.2.1, bt103.2.2.1, bt103.2.2.2)))
set_option maxHeartbeats 8000000 in
set_option maxRecDepth 100000 in
theorem T_next.calls (k : Nat) (g : Nat) (s0_0 : ByteArray) (s0_1 : Int) (s0_2 : Int) (s0_3 : Int) (r1 : Int) (r2 : ByteArray) (r3 : Int) (r4 : Int) (r5 : Int) (w0 w : World) (hI : IsS79 w0 w g s0_0 s0_1 s0_2 s0_3) (hB : Below w0.heap.size w0 w) (h : T_next.f k s0_0 s0_1 s0_2 s0_3 = some (r1, r2, r3, r4, r5)) :
  Calls Tryd.prog 33 #[.pointer (some ⟨g, 0, none⟩)] w fun e w' => e = .returned (.int .u8 r1) ∧ IsS79 w0 w' g r2 r3 r4 r5 ∧ Below w0.heap.size w0 w' ∧ KeepBut w w' g none := by
 have HI0 := yM hI
 have HK := yM (KeepBut.refl w g none)
 have HL := yM hB.size
 clear hI
 have HW0 := yM hB.size
 have HB := yM hB
 clear hB
 have H : ((T_blanks.f k s0_0 s0_1 s0_2 s0_3).bind fun bt103 => (if bt103.2.1 < (bt103.1.size : Int) then (if 0 ≤ bt103.2.1 then (some (bt bt103.1 bt103.2.1, bt103.1, bt103.2.1, bt103.2.2.1, bt103.2.2.2)) else (none)) else (some (0, bt103.1, bt103.2.1, bt103.2.2.1, bt103.2.2.2)))) = some (r1, r2, r3, r4, r5) := h
 clear h
 replace H := yO H
 obtain ⟨⟨t103, t104, t105, t106⟩, A20, H⟩ := H
 replace H : (if t104 < (t103.size : Int) then (if 0 ≤ t104 then (some (bt t103 t104, t103, t104, t105, t106)) else (none)) else (some (0, t103, t104, t105, t106))) = some (r1, r2, r3, r4, r5) := H
 have A2 := yM A20
 clear A20
 by_cases c3 : t104 < (t103.size : Int)
 ·rw [if_pos c3] at H
  have c3b0 : decide (t104 < (t103.size : Int)) = true := decide_eq_true c3
  clear c3
  by_cases c4 : 0 ≤ t104
  ·rw [if_pos c4] at H
   have c4b0 : decide (0 ≤ t104) = true := decide_eq_true c4
   clear c4
   simp only [Option.some.injEq, Prod.mk.injEq] at H
   obtain ⟨rfl, rfl, rfl, rfl, rfl⟩ := H
   go_enter Tryd.func33, Tryd.ntmps33
   go_wp2_with (first | (go_at_call 48; (with_reducible refine (T_blanks.calls k g s0_0 s0_1 s0_2 s0_3 t103 t104 t105 t106 w0 _ ?side1 ?side2 A2.out).mono ?_); (case side1 => repeat (first | (with_reducible first | exact HI0.out | apply wA | apply wN | apply wD | apply w_0 | apply w_1 | apply w_2 | apply w_3) | exact HI0.out)); (case side2 => repeat (first | (with_reducible first | exact HB.out | apply zA | apply zN | apply zD | refine zq9 ?_ (wG HI0.out)) | exact HB.out)); rintro e w6 ⟨rfl, hi, hb, hk⟩; have n0_ := yM (KeepBut.trans (by repeat (first | (with_reducible first | exact HK.out | apply yK | apply zk | apply zl9 | apply zm) | exact HK.out)) hk (.inl rfl)); have n1_ := yM (hb); have n2_ := yM (hi); clear HK; clear HB; clear HI0; have HK := n0_; have HB := n1_; have HI0 := n2_; clear n0_ n1_ n2_; (try clear hb); (try clear hb2); (try clear hk); (try clear hi); obtain ⟨HGz7, hgz7⟩ := HI0.out; have hcz7_0 := cellS79_0 HGz7; have hcz7_1 := cellS79_1 HGz7; have hcz7_2 := cellS79_2 HGz7; have hcz7_3 := cellS79_3 HGz7; have hfz7_0 := yF HGz7 0; have hfz7_1 := yF HGz7 1; have hfz7_2 := yF HGz7 2; have hfz7_3 := yF HGz7 3; clear HGz7 hgz7; have p5 : 0 ≤ (t104 : Int) := yQ (by first | (with_reducible assumption) | assumption); have q5 : t104 < (t103.size : Int) := yQ (by first | (with_reducible assumption) | assumption); have hx5 := bt_at t103 t104; replace p5 := eq_true p5; replace q5 := eq_true q5))
   repeat (go_quiet (first | (go_at_call 48; (with_reducible refine (T_blanks.calls k g s0_0 s0_1 s0_2 s0_3 t103 t104 t105 t106 w0 _ ?side1 ?side2 A2.out).mono ?_); (case side1 => repeat (first | (with_reducible first | exact HI0.out | apply wA | apply wN | apply wD | apply w_0 | apply w_1 | apply w_2 | apply w_3) | exact HI0.out)); (case side2 => repeat (first | (with_reducible first | exact HB.out | apply zA | apply zN | apply zD | refine zq9 ?_ (wG HI0.out)) | exact HB.out)); rintro e w6 ⟨rfl, hi, hb, hk⟩; have n0_ := yM (KeepBut.trans (by repeat (first | (with_reducible first | exact HK.out | apply yK | apply zk | apply zl9 | apply zm) | exact HK.out)) hk (.inl rfl)); have n1_ := yM (hb); have n2_ := yM (hi); clear HK; clear HB; clear HI0; have HK := n0_; have HB := n1_; have HI0 := n2_; clear n0_ n1_ n2_; (try clear hb); (try clear hb2); (try clear hk); (try clear hi); obtain ⟨HGz7, hgz7⟩ := HI0.out; have hcz7_0 := cellS79_0 HGz7; have hcz7_1 := cellS79_1 HGz7; have hcz7_2 := cellS79_2 HGz7; have hcz7_3 := cellS79_3 HGz7; have hfz7_0 := yF HGz7 0; have hfz7_1 := yF HGz7 1; have hfz7_2 := yF HGz7 2; have hfz7_3 := yF HGz7 3; clear HGz7 hgz7; have p5 : 0 ≤ (t104 : Int) := yQ (by first | (with_reducible assumption) | assumption); have q5 : t104 < (t103.size : Int) := yQ (by first | (with_reducible assumption) | assumption); have hx5 := bt_at t103 t104; replace p5 := eq_true p5; replace q5 := eq_true q5)); try go_wp2_with (first | (go_at_call 48; (with_reducible refine (T_blanks.calls k g s0_0 s0_1 s0_2 s0_3 t103 t104 t105 t106 w0 _ ?side1 ?side2 A2.out).mono ?_); (case side1 => repeat (first | (with_reducible first | exact HI0.out | apply wA | apply wN | apply wD | apply w_0 | apply w_1 | apply w_2 | apply w_3) | exact HI0.out)); (case side2 => repeat (first | (with_reducible first | exact HB.out | apply zA | apply zN | apply zD | refine zq9 ?_ (wG HI0.out)) | exact HB.out)); rintro e w6 ⟨rfl, hi, hb, hk⟩; have n0_ := yM (KeepBut.trans (by repeat (first | (with_reducible first | exact HK.out | apply yK | apply zk | apply zl9 | apply zm) | exact HK.out)) hk (.inl rfl)); have n1_ := yM (hb); have n2_ := yM (hi); clear HK; clear HB; clear HI0; have HK := n0_; have HB := n1_; have HI0 := n2_; clear n0_ n1_ n2_; (try clear hb); (try clear hb2); (try clear hk); (try clear hi); obtain ⟨HGz7, hgz7⟩ := HI0.out; have hcz7_0 := cellS79_0 HGz7; have hcz7_1 := cellS79_1 HGz7; have hcz7_2 := cellS79_2 HGz7; have hcz7_3 := cellS79_3 HGz7; have hfz7_0 := yF HGz7 0; have hfz7_1 := yF HGz7 1; have hfz7_2 := yF HGz7 2; have hfz7_3 := yF HGz7 3; clear HGz7 hgz7; have p5 : 0 ≤ (t104 : Int) := yQ (by first | (with_reducible assumption) | assumption); have q5 : t104 < (t103.size : Int) := yQ (by first | (with_reducible assumption) | assumption); have hx5 := bt_at t103 t104; replace p5 := eq_true p5; replace q5 := eq_true q5)))
   go_ret
   exact ⟨by first | rfl | (simp [errW_none, errW_some] <;> rfl) | (simp [*, errW_none, errW_some] <;> rfl), by repeat (first | (with_reducible first | exact HI0.out | apply wA | apply wN | apply wD | apply w_0 | apply w_1 | apply w_2 | apply w_3) | exact HI0.out), by repeat (first | (with_reducible first | exact HB.out | apply zA | apply zN | apply zD | refine zq9 ?_ (wG HI0.out)) | exact HB.out), by repeat (first | (with_reducible first | exact HK.out | apply yK | apply zk | apply zl9 | apply zm) | exact HK.out)⟩
  ·rw [if_neg c4] at H
   exact absurd H (by simp)
 ·rw [if_neg c3] at H
  have c3b0 : decide (t104 < (t103.size : Int)) = false := decide_eq_false c3
  clear c3
  simp only [Option.some.injEq, Prod.mk.injEq] at H
  obtain ⟨rfl, rfl, rfl, rfl, rfl⟩ := H
  go_enter Tryd.func33, Tryd.ntmps33
  go_wp2_with (first | (go_at_call 48; (with_reducible refine (T_blanks.calls k g s0_0 s0_1 s0_2 s0_3 t103 t104 t105 t106 w0 _ ?side1 ?side2 A2.out).mono ?_); (case side1 => repeat (first | (with_reducible first | exact HI0.out | apply wA | apply wN | apply wD | apply w_0 | apply w_1 | apply w_2 | apply w_3) | exact HI0.out)); (case side2 => repeat (first | (with_reducible first | exact HB.out | apply zA | apply zN | apply zD | refine zq9 ?_ (wG HI0.out)) | exact HB.out)); rintro e w8 ⟨rfl, hi, hb, hk⟩; have n0_ := yM (KeepBut.trans (by repeat (first | (with_reducible first | exact HK.out | apply yK | apply zk | apply zl9 | apply zm) | exact HK.out)) hk (.inl rfl)); have n1_ := yM (hb); have n2_ := yM (hi); clear HK; clear HB; clear HI0; have HK := n0_; have HB := n1_; have HI0 := n2_; clear n0_ n1_ n2_; (try clear hb); (try clear hb2); (try clear hk); (try clear hi); obtain ⟨HGz9, hgz9⟩ := HI0.out; have hcz9_0 := cellS79_0 HGz9; have hcz9_1 := cellS79_1 HGz9; have hcz9_2 := cellS79_2 HGz9; have hcz9_3 := cellS79_3 HGz9; have hfz9_0 := yF HGz9 0; have hfz9_1 := yF HGz9 1; have hfz9_2 := yF HGz9 2; have hfz9_3 := yF HGz9 3; clear HGz9 hgz9))
  repeat (go_quiet (first | (go_at_call 48; (with_reducible refine (T_blanks.calls k g s0_0 s0_1 s0_2 s0_3 t103 t104 t105 t106 w0 _ ?side1 ?side2 A2.out).mono ?_); (case side1 => repeat (first | (with_reducible first | exact HI0.out | apply wA | apply wN | apply wD | apply w_0 | apply w_1 | apply w_2 | apply w_3) | exact HI0.out)); (case side2 => repeat (first | (with_reducible first | exact HB.out | apply zA | apply zN | apply zD | refine zq9 ?_ (wG HI0.out)) | exact HB.out)); rintro e w8 ⟨rfl, hi, hb, hk⟩; have n0_ := yM (KeepBut.trans (by repeat (first | (with_reducible first | exact HK.out | apply yK | apply zk | apply zl9 | apply zm) | exact HK.out)) hk (.inl rfl)); have n1_ := yM (hb); have n2_ := yM (hi); clear HK; clear HB; clear HI0; have HK := n0_; have HB := n1_; have HI0 := n2_; clear n0_ n1_ n2_; (try clear hb); (try clear hb2); (try clear hk); (try clear hi); obtain ⟨HGz9, hgz9⟩ := HI0.out; have hcz9_0 := cellS79_0 HGz9; have hcz9_1 := cellS79_1 HGz9; have hcz9_2 := cellS79_2 HGz9; have hcz9_3 := cellS79_3 HGz9; have hfz9_0 := yF HGz9 0; have hfz9_1 := yF HGz9 1; have hfz9_2 := yF HGz9 2; have hfz9_3 := yF HGz9 3; clear HGz9 hgz9)); try go_wp2_with (first | (go_at_call 48; (with_reducible refine (T_blanks.calls k g s0_0 s0_1 s0_2 s0_3 t103 t104 t105 t106 w0 _ ?side1 ?side2 A2.out).mono ?_); (case side1 => repeat (first | (with_reducible first | exact HI0.out | apply wA | apply wN | apply wD | apply w_0 | apply w_1 | apply w_2 | apply w_3) | exact HI0.out)); (case side2 => repeat (first | (with_reducible first | exact HB.out | apply zA | apply zN | apply zD | refine zq9 ?_ (wG HI0.out)) | exact HB.out)); rintro e w8 ⟨rfl, hi, hb, hk⟩; have n0_ := yM (KeepBut.trans (by repeat (first | (with_reducible first | exact HK.out | apply yK | apply zk | apply zl9 | apply zm) | exact HK.out)) hk (.inl rfl)); have n1_ := yM (hb); have n2_ := yM (hi); clear HK; clear HB; clear HI0; have HK := n0_; have HB := n1_; have HI0 := n2_; clear n0_ n1_ n2_; (try clear hb); (try clear hb2); (try clear hk); (try clear hi); obtain ⟨HGz9, hgz9⟩ := HI0.out; have hcz9_0 := cellS79_0 HGz9; have hcz9_1 := cellS79_1 HGz9; have hcz9_2 := cellS79_2 HGz9; have hcz9_3 := cellS79_3 HGz9; have hfz9_0 := yF HGz9 0; have hfz9_1 := yF HGz9 1; have hfz9_2 := yF HGz9 2; have hfz9_3 := yF HGz9 3; clear HGz9 hgz9)))
  go_ret
  exact ⟨by first | rfl | (simp [errW_none, errW_some] <;> rfl) | (simp [*, errW_none, errW_some] <;> rfl), by repeat (first | (with_reducible first | exact HI0.out | apply wA | apply wN | apply wD | apply w_0 | apply w_1 | apply w_2 | apply w_3) | exact HI0.out), by repeat (first | (with_reducible first | exact HB.out | apply zA | apply zN | apply zD | refine zq9 ?_ (wG HI0.out)) | exact HB.out), by repeat (first | (with_reducible first | exact HK.out | apply yK | apply zk | apply zl9 | apply zm) | exact HK.out)⟩
def T_fail.f (s0_0 : ByteArray) (s0_1 : Int) (s0_2 : Int) (s0_3 : Int) (a1 : Int) (a2 : Int) : Option (ByteArray × Int × Int × Int) := if s0_2 = 0 then (some (s0_0, s0_1, a1, a2)) else (some (s0_0, s0_1, s0_2, s0_3))
set_option maxHeartbeats 8000000 in
set_option maxRecDepth 100000 in
theorem T_fail.calls (g : Nat) (s0_0 : ByteArray) (s0_1 : Int) (s0_2 : Int) (s0_3 : Int) (a1 : Int) (a2 : Int) (r1 : ByteArray) (r2 : Int) (r3 : Int) (r4 : Int) (w0 w : World) (hI : IsS79 w0 w g s0_0 s0_1 s0_2 s0_3) (hB : Below w0.heap.size w0 w) (h : T_fail.f s0_0 s0_1 s0_2 s0_3 a1 a2 = some (r1, r2, r3, r4)) :
  Calls Tryd.prog 34 #[.pointer (some ⟨g, 0, none⟩), .int .i64 a1, .int .i64 a2] w fun e w' => e = .returned (.tuple #[]) ∧ IsS79 w0 w' g r1 r2 r3 r4 ∧ Below w0.heap.size w0 w' ∧ KeepBut w w' g none := by
 have HI0 := yM hI
 have HK := yM (KeepBut.refl w g none)
 have HL := yM hB.size
 clear hI
 have HW0 := yM hB.size
 have HB := yM hB
 clear hB
 have H : (if s0_2 = 0 then (some (s0_0, s0_1, a1, a2)) else (some (s0_0, s0_1, s0_2, s0_3))) = some (r1, r2, r3, r4) := h
 clear h
 by_cases c4 : s0_2 = 0
 ·rw [if_pos c4] at H
  have c4b0 : (s0_2 == 0) = true := beq_iff_eq.mpr c4
  have c4b1 : (s0_2 != 0) = false := bne_eq_false_iff_eq.mpr c4
  clear c4
  simp only [Option.some.injEq, Prod.mk.injEq] at H
  obtain ⟨rfl, rfl, rfl, rfl⟩ := H
  obtain ⟨HGz5, hgz5⟩ := HI0.out
  have hcz5_0 := cellS79_0 HGz5
  have hcz5_1 := cellS79_1 HGz5
  have hcz5_2 := cellS79_2 HGz5
  have hcz5_3 := cellS79_3 HGz5
  have hfz5_0 := yF HGz5 0
  have hfz5_1 := yF HGz5 1
  have hfz5_2 := yF HGz5 2
  have hfz5_3 := yF HGz5 3
  clear HGz5 hgz5
  go_enter Tryd.func34, Tryd.ntmps34
  go_wp2
  first | go_end0 | ((try simp only [Exit.inBlock, Exit.then]); refine bodyPost_ret (results_none rfl _ _ _) rfl ?_)
  exact ⟨by first | rfl | (simp [errW_none, errW_some] <;> rfl) | (simp [*, errW_none, errW_some] <;> rfl), by repeat (first | (with_reducible first | exact HI0.out | apply wA | apply wN | apply wD | apply w_0 | apply w_1 | apply w_2 | apply w_3) | exact HI0.out), by repeat (first | (with_reducible first | exact HB.out | apply zA | apply zN | apply zD | refine zq9 ?_ (wG HI0.out)) | exact HB.out), by repeat (first | (with_reducible first | exact HK.out | apply yK | apply zk | apply zl9 | apply zm) | exact HK.out)⟩
 ·rw [if_neg c4] at H
  have c4b0 : (s0_2 == 0) = false := yB c4
  have c4b1 : (s0_2 != 0) = true := bne_iff_ne.mpr c4
  simp only [Option.some.injEq, Prod.mk.injEq] at H
  obtain ⟨rfl, rfl, rfl, rfl⟩ := H
  obtain ⟨HGz6, hgz6⟩ := HI0.out
  have hcz6_0 := cellS79_0 HGz6
  have hcz6_1 := cellS79_1 HGz6
  have hcz6_2 := cellS79_2 HGz6
  have hcz6_3 := cellS79_3 HGz6
  have hfz6_0 := yF HGz6 0
  have hfz6_1 := yF HGz6 1
  have hfz6_2 := yF HGz6 2
  have hfz6_3 := yF HGz6 3
  clear HGz6 hgz6
  go_enter Tryd.func34, Tryd.ntmps34
  go_wp2
  first | go_end0 | ((try simp only [Exit.inBlock, Exit.then]); refine bodyPost_ret (results_none rfl _ _ _) rfl ?_)
  exact ⟨by first | rfl | (simp [errW_none, errW_some] <;> rfl) | (simp [*, errW_none, errW_some] <;> rfl), by repeat (first | (with_reducible first | exact HI0.out | apply wA | apply wN | apply wD | apply w_0 | apply w_1 | apply w_2 | apply w_3) | exact HI0.out), by repeat (first | (with_reducible first | exact HB.out | apply zA | apply zN | apply zD | refine zq9 ?_ (wG HI0.out)) | exact HB.out), by repeat (first | (with_reducible first | exact HK.out | apply yK | apply zk | apply zl9 | apply zm) | exact HK.out)⟩
def T_sign.f (k : Nat) (s0_0 : ByteArray) (s0_1 : Int) (s0_2 : Int) (s0_3 : Int) (a1 : Int) : Option (ByteArray × Int × Int × Int) := (T_next.f k s0_0 s0_1 s0_2 s0_3).bind fun bt107 => (if bt107.1 = a1 then (if bt107.2.2.2.1 = 0 then (some (bt107.2.1, wrap64 (bt107.2.2.1 + 1), bt107.2.2.2.1, bt107.2.2.2.2)) else ((T_fail.f bt107.2.1 bt107.2.2.1 bt107.2.2.2.1 bt107.2.2.2.2 120 bt107.2.2.1).bind fun bt112 => (some (bt112.1, bt112.2.1, bt112.2.2.1, bt112.2.2.2)))) else ((T_fail.f bt107.2.1 bt107.2.2.1 bt107.2.2.2.1 bt107.2.2.2.2 120 bt107.2.2.1).bind fun bt116 => (some (bt116.1, bt116.2.1, bt116.2.2.1, bt116.2.2.2))))
set_option maxHeartbeats 8000000 in
set_option maxRecDepth 100000 in
theorem T_sign.calls (k : Nat) (g : Nat) (s0_0 : ByteArray) (s0_1 : Int) (s0_2 : Int) (s0_3 : Int) (a1 : Int) (r1 : ByteArray) (r2 : Int) (r3 : Int) (r4 : Int) (w0 w : World) (hI : IsS79 w0 w g s0_0 s0_1 s0_2 s0_3) (hB : Below w0.heap.size w0 w) (h : T_sign.f k s0_0 s0_1 s0_2 s0_3 a1 = some (r1, r2, r3, r4)) :
  Calls Tryd.prog 62 #[.pointer (some ⟨g, 0, none⟩), .int .u8 a1] w fun e w' => e = .returned (.tuple #[]) ∧ IsS79 w0 w' g r1 r2 r3 r4 ∧ Below w0.heap.size w0 w' ∧ KeepBut w w' g none := by
 have HI0 := yM hI
 have HK := yM (KeepBut.refl w g none)
 have HL := yM hB.size
 clear hI
 have HW0 := yM hB.size
 have HB := yM hB
 clear hB
 have H : ((T_next.f k s0_0 s0_1 s0_2 s0_3).bind fun bt107 => (if bt107.1 = a1 then (if bt107.2.2.2.1 = 0 then (some (bt107.2.1, wrap64 (bt107.2.2.1 + 1), bt107.2.2.2.1, bt107.2.2.2.2)) else ((T_fail.f bt107.2.1 bt107.2.2.1 bt107.2.2.2.1 bt107.2.2.2.2 120 bt107.2.2.1).bind fun bt112 => (some (bt112.1, bt112.2.1, bt112.2.2.1, bt112.2.2.2)))) else ((T_fail.f bt107.2.1 bt107.2.2.1 bt107.2.2.2.1 bt107.2.2.2.2 120 bt107.2.2.1).bind fun bt116 => (some (bt116.1, bt116.2.1, bt116.2.2.1, bt116.2.2.2))))) = some (r1, r2, r3, r4) := h
 clear h
 replace H := yO H
 obtain ⟨⟨t107, t108, t109, t110, t111⟩, A30, H⟩ := H
 replace H : (if t107 = a1 then (if t110 = 0 then (some (t108, wrap64 (t109 + 1), t110, t111)) else ((T_fail.f t108 t109 t110 t111 120 t109).bind fun bt112 => (some (bt112.1, bt112.2.1, bt112.2.2.1, bt112.2.2.2)))) else ((T_fail.f t108 t109 t110 t111 120 t109).bind fun bt116 => (some (bt116.1, bt116.2.1, bt116.2.2.1, bt116.2.2.2)))) = some (r1, r2, r3, r4) := H
 have A3 := yM A30
 clear A30
 by_cases c4 : t107 = a1
 ·rw [if_pos c4] at H
  have c4b0 : (t107 == a1) = true := beq_iff_eq.mpr c4
  have c4b1 : (t107 != a1) = false := bne_eq_false_iff_eq.mpr c4
  clear c4
  by_cases c5 : t110 = 0
  ·rw [if_pos c5] at H
   have c5b0 : (t110 == 0) = true := beq_iff_eq.mpr c5
   have c5b1 : (t110 != 0) = false := bne_eq_false_iff_eq.mpr c5
   clear c5
   simp only [Option.some.injEq, Prod.mk.injEq] at H
   obtain ⟨rfl, rfl, rfl, rfl⟩ := H
   go_enter Tryd.func62, Tryd.ntmps62
   go_wp2_with (first | ((with_reducible refine gate_callee (f := 33) rfl ?_); refine goesL_ (some 5) rfl rfl Tryd.func33 (by kernel_rfl) rfl #[.pointer (some ⟨g, 0, none⟩)] rfl (by (try simp only [List.map_toArray, List.map_cons, List.map_nil]); first | done | rfl | (simp only [List.length_drop, List.length_take]; rfl)) ?_; (with_reducible refine (T_next.calls k g s0_0 s0_1 s0_2 s0_3 t107 t108 t109 t110 t111 w0 _ ?side1 ?side2 A3.out).mono ?_); (case side1 => repeat (first | (with_reducible first | exact HI0.out | apply wA | apply wN | apply wD | apply w_0 | apply w_1 | apply w_2 | apply w_3) | exact HI0.out)); (case side2 => repeat (first | (with_reducible first | exact HB.out | apply zA | apply zN | apply zD | refine zq9 ?_ (wG HI0.out)) | exact HB.out)); rintro e w6 ⟨rfl, hi, hb, hk⟩; refine ⟨_, rfl, ?_⟩; have n0_ := yM (KeepBut.trans (by repeat (first | (with_reducible first | exact HK.out | apply yK | apply zk | apply zl9 | apply zm) | exact HK.out)) hk (.inl rfl)); have n1_ := yM (hb); have n2_ := yM (hi); clear HK; clear HB; clear HI0; have HK := n0_; have HB := n1_; have HI0 := n2_; clear n0_ n1_ n2_; (try clear hb); (try clear hb2); (try clear hk); (try clear hi); obtain ⟨HGz7, hgz7⟩ := HI0.out; have hcz7_0 := cellS79_0 HGz7; have hcz7_1 := cellS79_1 HGz7; have hcz7_2 := cellS79_2 HGz7; have hcz7_3 := cellS79_3 HGz7; have hfz7_0 := yF HGz7 0; have hfz7_1 := yF HGz7 1; have hfz7_2 := yF HGz7 2; have hfz7_3 := yF HGz7 3; clear HGz7 hgz7))
   first | go_end0 | ((try simp only [Exit.inBlock, Exit.then]); refine bodyPost_ret (results_none rfl _ _ _) rfl ?_)
   exact ⟨by first | rfl | (simp [errW_none, errW_some] <;> rfl) | (simp [*, errW_none, errW_some] <;> rfl), by repeat (first | (with_reducible first | exact HI0.out | apply wA | apply wN | apply wD | apply w_0 | apply w_1 | apply w_2 | apply w_3) | exact HI0.out), by repeat (first | (with_reducible first | exact HB.out | apply zA | apply zN | apply zD | refine zq9 ?_ (wG HI0.out)) | exact HB.out), by repeat (first | (with_reducible first | exact HK.out | apply yK | apply zk | apply zl9 | apply zm) | exact HK.out)⟩
  ·rw [if_neg c5] at H
   have c5b0 : (t110 == 0) = false := yB c5
   have c5b1 : (t110 != 0) = true := bne_iff_ne.mpr c5
   replace H := yO H
   obtain ⟨⟨t112, t113, t114, t115⟩, A80, H⟩ := H
   replace H : (some (t112, t113, t114, t115)) = some (r1, r2, r3, r4) := H
   have A8 := yM A80
   clear A80
   simp only [Option.some.injEq, Prod.mk.injEq] at H
   obtain ⟨rfl, rfl, rfl, rfl⟩ := H
   go_enter Tryd.func62, Tryd.ntmps62
   go_wp2_with (first | ((with_reducible refine gate_callee (f := 33) rfl ?_); refine goesL_ (some 5) rfl rfl Tryd.func33 (by kernel_rfl) rfl #[.pointer (some ⟨g, 0, none⟩)] rfl (by (try simp only [List.map_toArray, List.map_cons, List.map_nil]); first | done | rfl | (simp only [List.length_drop, List.length_take]; rfl)) ?_; (with_reducible refine (T_next.calls k g s0_0 s0_1 s0_2 s0_3 t107 t108 t109 t110 t111 w0 _ ?side1 ?side2 A3.out).mono ?_); (case side1 => repeat (first | (with_reducible first | exact HI0.out | apply wA | apply wN | apply wD | apply w_0 | apply w_1 | apply w_2 | apply w_3) | exact HI0.out)); (case side2 => repeat (first | (with_reducible first | exact HB.out | apply zA | apply zN | apply zD | refine zq9 ?_ (wG HI0.out)) | exact HB.out)); rintro e w9 ⟨rfl, hi, hb, hk⟩; refine ⟨_, rfl, ?_⟩; have n0_ := yM (KeepBut.trans (by repeat (first | (with_reducible first | exact HK.out | apply yK | apply zk | apply zl9 | apply zm) | exact HK.out)) hk (.inl rfl)); have n1_ := yM (hb); have n2_ := yM (hi); clear HK; clear HB; clear HI0; have HK := n0_; have HB := n1_; have HI0 := n2_; clear n0_ n1_ n2_; (try clear hb); (try clear hb2); (try clear hk); (try clear hi); obtain ⟨HGz10, hgz10⟩ := HI0.out; have hcz10_0 := cellS79_0 HGz10; have hcz10_1 := cellS79_1 HGz10; have hcz10_2 := cellS79_2 HGz10; have hcz10_3 := cellS79_3 HGz10; have hfz10_0 := yF HGz10 0; have hfz10_1 := yF HGz10 1; have hfz10_2 := yF HGz10 2; have hfz10_3 := yF HGz10 3; clear HGz10 hgz10) | ((with_reducible refine gate_callee (f := 34) rfl ?_); refine goesL_ (some 20) rfl rfl Tryd.func34 (by kernel_rfl) rfl #[.pointer (some ⟨g, 0, none⟩), .int .i64 120, .int .i64 t109] rfl (by (try simp only [List.map_toArray, List.map_cons, List.map_nil]); first | done | rfl | (simp only [List.length_drop, List.length_take]; rfl)) ?_; (with_reducible refine (T_fail.calls g t108 t109 t110 t111 120 t109 t112 t113 t114 t115 w0 _ ?side1 ?side2 A8.out).mono ?_); (case side1 => repeat (first | (with_reducible first | exact HI0.out | apply wA | apply wN | apply wD | apply w_0 | apply w_1 | apply w_2 | apply w_3) | exact HI0.out)); (case side2 => repeat (first | (with_reducible first | exact HB.out | apply zA | apply zN | apply zD | refine zq9 ?_ (wG HI0.out)) | exact HB.out)); rintro e w11 ⟨rfl, hi, hb, hk⟩; refine ⟨_, rfl, ?_⟩; have n0_ := yM (KeepBut.trans (by repeat (first | (with_reducible first | exact HK.out | apply yK | apply zk | apply zl9 | apply zm) | exact HK.out)) hk (.inl rfl)); have n1_ := yM (hb); have n2_ := yM (hi); clear HK; clear HB; clear HI0; have HK := n0_; have HB := n1_; have HI0 := n2_; clear n0_ n1_ n2_; (try clear hb); (try clear hb2); (try clear hk); (try clear hi)))
   first | go_end0 | ((try simp only [Exit.inBlock, Exit.then]); refine bodyPost_ret (results_none rfl _ _ _) rfl ?_)
   exact ⟨by first | rfl | (simp [errW_none, errW_some] <;> rfl) | (simp [*, errW_none, errW_some] <;> rfl), by repeat (first | (with_reducible first | exact HI0.out | apply wA | apply wN | apply wD | apply w_0 | apply w_1 | apply w_2 | apply w_3) | exact HI0.out), by repeat (first | (with_reducible first | exact HB.out | apply zA | apply zN | apply zD | refine zq9 ?_ (wG HI0.out)) | exact HB.out), by repeat (first | (with_reducible first | exact HK.out | apply yK | apply zk | apply zl9 | apply zm) | exact HK.out)⟩
 ·rw [if_neg c4] at H
  have c4b0 : (t107 == a1) = false := yB c4
  have c4b1 : (t107 != a1) = true := bne_iff_ne.mpr c4
  replace H := yO H
  obtain ⟨⟨t116, t117, t118, t119⟩, A120, H⟩ := H
  replace H : (some (t116, t117, t118, t119)) = some (r1, r2, r3, r4) := H
  have A12 := yM A120
  clear A120
  simp only [Option.some.injEq, Prod.mk.injEq] at H
  obtain ⟨rfl, rfl, rfl, rfl⟩ := H
  go_enter Tryd.func62, Tryd.ntmps62
  go_wp2_with (first | ((with_reducible refine gate_callee (f := 33) rfl ?_); refine goesL_ (some 5) rfl rfl Tryd.func33 (by kernel_rfl) rfl #[.pointer (some ⟨g, 0, none⟩)] rfl (by (try simp only [List.map_toArray, List.map_cons, List.map_nil]); first | done | rfl | (simp only [List.length_drop, List.length_take]; rfl)) ?_; (with_reducible refine (T_next.calls k g s0_0 s0_1 s0_2 s0_3 t107 t108 t109 t110 t111 w0 _ ?side1 ?side2 A3.out).mono ?_); (case side1 => repeat (first | (with_reducible first | exact HI0.out | apply wA | apply wN | apply wD | apply w_0 | apply w_1 | apply w_2 | apply w_3) | exact HI0.out)); (case side2 => repeat (first | (with_reducible first | exact HB.out | apply zA | apply zN | apply zD | refine zq9 ?_ (wG HI0.out)) | exact HB.out)); rintro e w13 ⟨rfl, hi, hb, hk⟩; refine ⟨_, rfl, ?_⟩; have n0_ := yM (KeepBut.trans (by repeat (first | (with_reducible first | exact HK.out | apply yK | apply zk | apply zl9 | apply zm) | exact HK.out)) hk (.inl rfl)); have n1_ := yM (hb); have n2_ := yM (hi); clear HK; clear HB; clear HI0; have HK := n0_; have HB := n1_; have HI0 := n2_; clear n0_ n1_ n2_; (try clear hb); (try clear hb2); (try clear hk); (try clear hi); obtain ⟨HGz14, hgz14⟩ := HI0.out; have hcz14_0 := cellS79_0 HGz14; have hcz14_1 := cellS79_1 HGz14; have hcz14_2 := cellS79_2 HGz14; have hcz14_3 := cellS79_3 HGz14; have hfz14_0 := yF HGz14 0; have hfz14_1 := yF HGz14 1; have hfz14_2 := yF HGz14 2; have hfz14_3 := yF HGz14 3; clear HGz14 hgz14) | ((with_reducible refine gate_callee (f := 34) rfl ?_); refine goesL_ (some 20) rfl rfl Tryd.func34 (by kernel_rfl) rfl #[.pointer (some ⟨g, 0, none⟩), .int .i64 120, .int .i64 t109] rfl (by (try simp only [List.map_toArray, List.map_cons, List.map_nil]); first | done | rfl | (simp only [List.length_drop, List.length_take]; rfl)) ?_; (with_reducible refine (T_fail.calls g t108 t109 t110 t111 120 t109 t116 t117 t118 t119 w0 _ ?side1 ?side2 A12.out).mono ?_); (case side1 => repeat (first | (with_reducible first | exact HI0.out | apply wA | apply wN | apply wD | apply w_0 | apply w_1 | apply w_2 | apply w_3) | exact HI0.out)); (case side2 => repeat (first | (with_reducible first | exact HB.out | apply zA | apply zN | apply zD | refine zq9 ?_ (wG HI0.out)) | exact HB.out)); rintro e w15 ⟨rfl, hi, hb, hk⟩; refine ⟨_, rfl, ?_⟩; have n0_ := yM (KeepBut.trans (by repeat (first | (with_reducible first | exact HK.out | apply yK | apply zk | apply zl9 | apply zm) | exact HK.out)) hk (.inl rfl)); have n1_ := yM (hb); have n2_ := yM (hi); clear HK; clear HB; clear HI0; have HK := n0_; have HB := n1_; have HI0 := n2_; clear n0_ n1_ n2_; (try clear hb); (try clear hb2); (try clear hk); (try clear hi)))
  first | go_end0 | ((try simp only [Exit.inBlock, Exit.then]); refine bodyPost_ret (results_none rfl _ _ _) rfl ?_)
  exact ⟨by first | rfl | (simp [errW_none, errW_some] <;> rfl) | (simp [*, errW_none, errW_some] <;> rfl), by repeat (first | (with_reducible first | exact HI0.out | apply wA | apply wN | apply wD | apply w_0 | apply w_1 | apply w_2 | apply w_3) | exact HI0.out), by repeat (first | (with_reducible first | exact HB.out | apply zA | apply zN | apply zD | refine zq9 ?_ (wG HI0.out)) | exact HB.out), by repeat (first | (with_reducible first | exact HK.out | apply yK | apply zk | apply zl9 | apply zm) | exact HK.out)⟩
attribute [local go_sem] max2_int min2_int max_two min_two max_three min_three max_four min_four
set_option linter.unusedVariables false
set_option linter.unusedSimpArgs false
def R_token.l0 : Nat → List Int → ByteArray → Int → Option (List Int)
 | 0, _, _, _ => none
 | k + 1, x0, x1, x5 => if x5 < (x1.size : Int) then (if 0 ≤ x5 then (if x0.length < 140737488355328 then (R_token.l0 k (x0 ++ [bt x1 x5]) x1 (wrap64 (x5 + 1))) else (none)) else (none)) else (some x0)
def R_token.f (k : Nat) (l0 : List Int) (a1 : ByteArray) : Option (List Int) := R_token.l0 k l0 a1 0
set_option maxHeartbeats 8000000 in
set_option maxRecDepth 100000 in
theorem R_token.calls (k : Nat) (P0_ : Nat → Prop) (u9000_ : Value) (l0 : List Int) (a1 : ByteArray) (r : List Int) (w0 w : World) (hB : Below w0.heap.size w0 w) (ho0 : Kd.R (Kd.int .u8) 5 w w0.heap.size P0_ u9000_ l0) (h : R_token.f k l0 a1 = some r) :
  Calls Tryd.prog 35 #[u9000_, .string a1] w fun e w' => ∃ v0_ : Value, e = .returned (v0_) ∧ Kd.R (Kd.int .u8) 5 w' w0.heap.size (fun k_ => (P0_ k_ ∨ w.heap.size ≤ k_)) v0_ r ∧ Below w0.heap.size w0 w' ∧ Kept w w' (fun k_ => P0_ k_) := by
 have HO0 := yM (show Kd.R (Kd.int .u8) 5 w w0.heap.size (fun k_ => (P0_ k_ ∨ w.heap.size ≤ k_)) u9000_ l0 from Kd.R_mono ho0 (fun k_ hk => (.inl hk)))
 have HK := yM (Kept.refl w (fun k_ => P0_ k_))
 have HW0 := yM hB.size
 have HB := yM hB
 clear hB
 have H : (R_token.l0 k l0 a1 0) = some r := h
 clear h
 have H' := yM H
 clear H
 go_enter Tryd.func35, Tryd.ntmps35
 go_wp2
 go_loopg [0, 5] k (fun kq v0 v5 w' => ∃ (x0_1 : List Int) (x5_1 : Int), v5 = .int .i64 x5_1 ∧ Aside0 (R_token.l0 kq x0_1 a1 x5_1 = some r) ∧ Aside0 (kq ≤ k) ∧ Aside0 (Kd.R (Kd.int .u8) 5 w' w0.heap.size (fun k_ => (P0_ k_ ∨ w.heap.size ≤ k_)) v0 x0_1) ∧ Aside0 (Kept w w' (fun k_ => P0_ k_)) ∧ Aside0 (Below w0.heap.size w0 w'))
 case atStart => exact ⟨(l0), (0), (by first | rfl | (simp; done) | (simp [*]; done)), H', ⟨Nat.le_refl _⟩, ⟨by (with_reducible repeat (first | apply Kd.R_alloc | apply Kd.R_drewN | apply Kd.R_drew)); exact HO0.out⟩, ⟨by repeat (first | (with_reducible first | exact HK.out | apply Kept.alloc | apply Kept.drewN | apply Kept.drew) | exact HK.out)⟩, ⟨by repeat (first | (with_reducible first | exact HB.out | apply zA | apply zN | apply zD) | exact HB.out)⟩⟩
 case round =>
  clear H'
  obtain ⟨x0_1, x5_1, rfl, HA, HK1, HO_0, HK, HB⟩ := hrel
  cases gk with
  | zero => exact absurd HA.out (by simp [R_token.l0])
  | succ k1 =>
   have H := HA.out
   clear HA
   simp only [R_token.l0] at H
   by_cases c3 : x5_1 < (a1.size : Int)
   ·rw [if_pos c3] at H
    have c3b0 : decide (x5_1 < (a1.size : Int)) = true := decide_eq_true c3
    clear c3
    by_cases c4 : 0 ≤ x5_1
    ·rw [if_pos c4] at H
     have c4b0 : decide (0 ≤ x5_1) = true := decide_eq_true c4
     clear c4
     by_cases c6 : x0_1.length < 140737488355328
     ·rw [if_pos c6] at H
      have LMc6 := yM c6
      clear c6
      obtain ⟨y317, hy317⟩ : ∃ y_ : List Int, y_ = (x0_1 ++ [bt a1 x5_1]) := ⟨_, rfl⟩
      replace H : (R_token.l0 k1 y317 a1 (wrap64 (x5_1 + 1))) = some r := by first | (rw [hy317]; with_reducible exact H) | (have H2_ := (Option.bind_some _ _).symm.trans H; rw [hy317]; with_reducible exact H2_) | (have H2_ := (Option.bind_some _ _).symm.trans H; with_reducible exact H2_) | with_reducible exact H | (rw [hy317]; exact H) | exact H
      have Ny317 := yM hy317
      clear hy317
      have H' := yM H
      clear H
      have p5 : 0 ≤ (x5_1 : Int) := yQ (by first | (with_reducible assumption) | assumption)
      have q5 : x5_1 < (a1.size : Int) := yQ (by first | (with_reducible assumption) | assumption)
      have hx5 := bt_at a1 x5_1
      replace p5 := eq_true p5
      replace q5 := eq_true q5
      go_wp2_with (first | ((with_reducible refine gate_builtin (b := .append) (xs := #[.tmp 12, .tmp 16]) rfl ?_); at_builtin; refine Kd.R_append (Kd.int .u8) (w0 := w0) w0.heap.size rfl (.tmp 12) (.tmp 16) 49 5 (.int .u8 0) 1 rfl Tryd.underlying49 info5 rfl (by decide) (by omega) u0 x0_1 (bt a1 x5_1) [.int .u8 (bt a1 x5_1)] (fun k_ => (P0_ k_ ∨ w.heap.size ≤ k_)) (fun _ => False) rfl rfl ?aP (fun _ hk => hk.elim) ?aF ?aO ?aB ?aS ?aL ?_; (case aP => exact rfl); (case aB => exact (by repeat (first | (with_reducible first | exact HB.out | apply zA | apply zN | apply zD) | exact HB.out))); (case aF => exact (fun k_ hk => (.inr (Nat.le_trans (by first | exact HK.out.1 | exact (show Kept w _ (fun k_ => P0_ k_) from by repeat (first | (with_reducible first | exact HK.out | apply Kept.alloc | apply Kept.drewN | apply Kept.drew) | exact HK.out)).1) hk)))); (case aO => exact (by (with_reducible repeat (first | apply Kd.R_alloc | apply Kd.R_drewN | apply Kd.R_drew)); exact HO_0.out)); (case aS => exact (below_size (by repeat (first | (with_reducible first | exact HB.out | apply zA | apply zN | apply zD) | exact HB.out)))); (case aL => have := LMc6.out; omega); intro v318 w7 ho hb hg hat; rw [← Ny317.out] at ho; have n0_ := yM (hb); have n1_ := yM (Kept.of_grown (S := (fun k_ => P0_ k_)) hg (by repeat (first | (with_reducible first | exact HK.out | apply Kept.alloc | apply Kept.drewN | apply Kept.drew) | exact HK.out)) (fun k_ e_ => (HO_0.out.1 k_ e_))); have n2_ := yM (ho); clear HB; clear HK; clear HO_0; have HB := n0_; have HK := n1_; have HO319 := n2_; clear n0_ n1_ n2_; clear ho hb hg hat))
      go_roundg k1
      case measure => have := HK1.out; omega
      case rel => exact ⟨(y317), (wrap64 (x5_1 + 1)), (by first | rfl | (simp; done) | (simp [*]; done)), H', ⟨by have := HK1.out; omega⟩, ⟨by (with_reducible repeat (first | apply Kd.R_alloc | apply Kd.R_drewN | apply Kd.R_drew)); exact HO319.out⟩, ⟨by repeat (first | (with_reducible first | exact HK.out | apply Kept.alloc | apply Kept.drewN | apply Kept.drew) | exact HK.out)⟩, ⟨by repeat (first | (with_reducible first | exact HB.out | apply zA | apply zN | apply zD) | exact HB.out)⟩⟩
     ·rw [if_neg c6] at H
      exact absurd H (by simp)
    ·rw [if_neg c4] at H
     exact absurd H (by simp)
   ·rw [if_neg c3] at H
    have c3b0 : decide (x5_1 < (a1.size : Int)) = false := decide_eq_false c3
    clear c3
    obtain rfl := Option.some.inj H
    go_wp2
    go_ret
    exact ⟨_, by first | rfl | (simp [errW_none, errW_some] <;> rfl) | (simp [*, errW_none, errW_some] <;> rfl), by (with_reducible repeat (first | apply Kd.R_alloc | apply Kd.R_drewN | apply Kd.R_drew)); exact HO_0.out, by repeat (first | (with_reducible first | exact HB.out | apply zA | apply zN | apply zD) | exact HB.out), by repeat (first | (with_reducible first | exact HK.out | apply Kept.alloc | apply Kept.drewN | apply Kept.drew) | exact HK.out)⟩
mutual
def json_unit.j0 : Nat → ByteArray → Bool → Option (Int × Bool)
 | 0, _, _ => none
 | k + 1, x0, x19 => if x19 = true then (some (0, false)) else (json_unit.l0 k x0 0 2)
def json_unit.l0 : Nat → ByteArray → Int → Int → Option (Int × Bool)
 | 0, _, _, _ => none
 | k + 1, x0, x4, x5 => if x5 < 6 then (if 0 ≤ x5 then (if x5 < (x0.size : Int) then (if (bt x0 x5) ≥ 48 then (json_unit.j2 k x0 x4 x5 (bt x0 x5) (decide ((bt x0 x5) ≤ 57))) else (json_unit.j2 k x0 x4 x5 (bt x0 x5) false)) else (none)) else (none)) else (some (x4, true))
def json_unit.j2 : Nat → ByteArray → Int → Int → Int → Bool → Option (Int × Bool)
 | 0, _, _, _, _, _ => none
 | k + 1, x0, x4, x5, x6, x27 => if x27 = true then (json_unit.l0 k x0 (Go.bits .or .i32 (wrap32 (x4 * 16)) ((x6 - 48) % 256)) (wrap64 (x5 + 1))) else (if x6 ≥ 97 then (json_unit.j3 k x0 x4 x5 x6 (decide (x6 ≤ 102))) else (json_unit.j3 k x0 x4 x5 x6 false))
def json_unit.j3 : Nat → ByteArray → Int → Int → Int → Bool → Option (Int × Bool)
 | 0, _, _, _, _, _ => none
 | k + 1, x0, x4, x5, x6, x40 => if x40 = true then (json_unit.l0 k x0 (Go.bits .or .i32 (wrap32 (x4 * 16)) ((((x6 - 97) % 256) + 10) % 256)) (wrap64 (x5 + 1))) else (if x6 ≥ 65 then (if x6 ≤ 70 then (json_unit.l0 k x0 (Go.bits .or .i32 (wrap32 (x4 * 16)) ((((x6 - 65) % 256) + 10) % 256)) (wrap64 (x5 + 1))) else (some (0, false))) else (some (0, false)))
end
def json_unit.f (k : Nat) (a0 : ByteArray) : Option (Int × Bool) := if (a0.size : Int) < 6 then (json_unit.j0 k a0 true) else (if 0 < (a0.size : Int) then (if (bt a0 0) = 92 then (if 1 < (a0.size : Int) then (json_unit.j0 k a0 ((bt a0 1) != 117)) else (none)) else (json_unit.j0 k a0 true)) else (none))
theorem json_unit.mono_l : ∀ k, (∀ y0 y1, LeO (json_unit.j0 k y0 y1) (json_unit.j0 (k + 1) y0 y1)) ∧ (∀ y0 y1 y2, LeO (json_unit.l0 k y0 y1 y2) (json_unit.l0 (k + 1) y0 y1 y2)) ∧ (∀ y0 y1 y2 y3 y4, LeO (json_unit.j2 k y0 y1 y2 y3 y4) (json_unit.j2 (k + 1) y0 y1 y2 y3 y4)) ∧ (∀ y0 y1 y2 y3 y4, LeO (json_unit.j3 k y0 y1 y2 y3 y4) (json_unit.j3 (k + 1) y0 y1 y2 y3 y4))
 | 0 => ⟨fun _ _ r h => by simp [json_unit.j0] at h, fun _ _ _ r h => by simp [json_unit.l0] at h, fun _ _ _ _ _ r h => by simp [json_unit.j2] at h, fun _ _ _ _ _ r h => by simp [json_unit.j3] at h⟩
 | k + 1 => by
  obtain ⟨ih0, ih1, ih2, ih3⟩ := json_unit.mono_l k
  refine ⟨?_, ?_, ?_, ?_⟩
  ·intro y0 y1
   unfold json_unit.j0
   repeat' first
   | (with_reducible exact ih0 _ _)
   | (with_reducible exact ih1 _ _ _)
   | (with_reducible exact ih2 _ _ _ _ _)
   | (with_reducible exact ih3 _ _ _ _ _)
   | (with_reducible exact LeO.refl _)
   | (with_reducible exact LeO.none _)
   | (with_reducible refine LeO.ite ?_ ?_)
   | (with_reducible refine LeO.bind ?_ (fun _ => ?_))
   | exact ih0 _ _
   | exact ih1 _ _ _
   | exact ih2 _ _ _ _ _
   | exact ih3 _ _ _ _ _
   | exact LeO.none _
   | refine LeO.ite ?_ ?_
   | refine LeO.bind ?_ (fun _ => ?_)
  ·intro y0 y1 y2
   unfold json_unit.l0
   repeat' first
   | (with_reducible exact ih0 _ _)
   | (with_reducible exact ih1 _ _ _)
   | (with_reducible exact ih2 _ _ _ _ _)
   | (with_reducible exact ih3 _ _ _ _ _)
   | (with_reducible exact LeO.refl _)
   | (with_reducible exact LeO.none _)
   | (with_reducible refine LeO.ite ?_ ?_)
   | (with_reducible refine LeO.bind ?_ (fun _ => ?_))
   | exact ih0 _ _
   | exact ih1 _ _ _
   | exact ih2 _ _ _ _ _
   | exact ih3 _ _ _ _ _
   | exact LeO.none _
   | refine LeO.ite ?_ ?_
   | refine LeO.bind ?_ (fun _ => ?_)
  ·intro y0 y1 y2 y3 y4
   unfold json_unit.j2
   repeat' first
   | (with_reducible exact ih0 _ _)
   | (with_reducible exact ih1 _ _ _)
   | (with_reducible exact ih2 _ _ _ _ _)
   | (with_reducible exact ih3 _ _ _ _ _)
   | (with_reducible exact LeO.refl _)
   | (with_reducible exact LeO.none _)
   | (with_reducible refine LeO.ite ?_ ?_)
   | (with_reducible refine LeO.bind ?_ (fun _ => ?_))
   | exact ih0 _ _
   | exact ih1 _ _ _
   | exact ih2 _ _ _ _ _
   | exact ih3 _ _ _ _ _
   | exact LeO.none _
   | refine LeO.ite ?_ ?_
   | refine LeO.bind ?_ (fun _ => ?_)
  ·intro y0 y1 y2 y3 y4
   unfold json_unit.j3
   repeat' first
   | (with_reducible exact ih0 _ _)
   | (with_reducible exact ih1 _ _ _)
   | (with_reducible exact ih2 _ _ _ _ _)
   | (with_reducible exact ih3 _ _ _ _ _)
   | (with_reducible exact LeO.refl _)
   | (with_reducible exact LeO.none _)
   | (with_reducible refine LeO.ite ?_ ?_)
   | (with_reducible refine LeO.bind ?_ (fun _ => ?_))
   | exact ih0 _ _
   | exact ih1 _ _ _
   | exact ih2 _ _ _ _ _
   | exact ih3 _ _ _ _ _
   | exact LeO.none _
   | refine LeO.ite ?_ ?_
   | refine LeO.bind ?_ (fun _ => ?_)
theorem json_unit.mono : ∀ a0 k, LeO (json_unit.f k a0) (json_unit.f (k + 1) a0) := by
 intro a0 k
 obtain ⟨ih0, ih1, ih2, ih3⟩ := json_unit.mono_l k
 unfold json_unit.f
 repeat' first
   | (with_reducible exact ih0 _ _)
   | (with_reducible exact ih1 _ _ _)
   | (with_reducible exact ih2 _ _ _ _ _)
   | (with_reducible exact ih3 _ _ _ _ _)
   | (with_reducible exact LeO.refl _)
   | (with_reducible exact LeO.none _)
   | (with_reducible refine LeO.ite ?_ ?_)
   | (with_reducible refine LeO.bind ?_ (fun _ => ?_))
   | exact ih0 _ _
   | exact ih1 _ _ _
   | exact ih2 _ _ _ _ _
   | exact ih3 _ _ _ _ _
   | exact LeO.none _
   | refine LeO.ite ?_ ?_
   | refine LeO.bind ?_ (fun _ => ?_)
set_option maxHeartbeats 8000000 in
set_option maxRecDepth 100000 in
theorem json_unit.calls (k : Nat) (a0 : ByteArray) (r1 : Int) (r2 : Bool) (w : World) (h : json_unit.f k a0 = some (r1, r2)) :
  Calls Tryd.prog 83 #[.string a0] w fun e w' => e = .returned (.tuple #[.int .i32 r1, .bool r2]) ∧ Drawn0 w w' := by
 have H : (if (a0.size : Int) < 6 then (json_unit.j0 k a0 true) else (if 0 < (a0.size : Int) then (if (bt a0 0) = 92 then (if 1 < (a0.size : Int) then (json_unit.j0 k a0 ((bt a0 1) != 117)) else (none)) else (json_unit.j0 k a0 true)) else (none))) = some (r1, r2) := h
 clear h
 have HC2 := yM H
 clear H
 go_enter Tryd.func83, Tryd.ntmps83
 go_upto_region 1 with (fail)
 go_cut [19] (fun v19 wc => ∃ (kq : Nat) (x19_1 : Bool), v19 = .bool x19_1 ∧ Aside0 (json_unit.j0 kq a0 x19_1 = some (r1, r2)) ∧ Aside0 (kq ≤ k) ∧ Drawn0 w wc)
 case first =>
  have H := HC2.out
  clear HC2
  by_cases c3 : (a0.size : Int) < 6
  ·rw [if_pos c3] at H
   have c3b0 : decide ((a0.size : Int) < 6) = true := decide_eq_true c3
   have c3b1 : decide (a0.size < 6) = true := decide_eq_true (by omega)
   clear c3
   (first | rw [c3b0] | (simp only [i64_w, i32_w]; rw [c3b0]) | skip)
   have H' := yM H
   clear H
   go_wp2
   go_meet
   case rel => exact ⟨_, (true), (by first | rfl | (simp; done) | (simp [*]; done)), H', ⟨by first | omega | exact Nat.le_refl _⟩, by repeat (first | exact Drawn0.refl _ | apply Drawn0.step)⟩
  ·rw [if_neg c3] at H
   have c3b0 : decide ((a0.size : Int) < 6) = false := decide_eq_false c3
   have c3b1 : decide (a0.size < 6) = false := decide_eq_false (by omega)
   clear c3
   (first | rw [c3b0] | (simp only [i64_w, i32_w]; rw [c3b0]) | skip)
   by_cases c4 : 0 < (a0.size : Int)
   ·rw [if_pos c4] at H
    have c4b0 : decide (0 < (a0.size : Int)) = true := decide_eq_true c4
    have c4b1 : decide (0 < a0.size) = true := decide_eq_true (by omega)
    clear c4
    by_cases c6 : (bt a0 0) = 92
    ·rw [if_pos c6] at H
     have c6b0 : ((bt a0 0) == 92) = true := beq_iff_eq.mpr c6
     have c6b1 : ((bt a0 0) != 92) = false := bne_eq_false_iff_eq.mpr c6
     clear c6
     by_cases c7 : 1 < (a0.size : Int)
     ·rw [if_pos c7] at H
      have c7b0 : decide (1 < (a0.size : Int)) = true := decide_eq_true c7
      have c7b1 : decide (1 < a0.size) = true := decide_eq_true (by omega)
      clear c7
      have H' := yM H
      clear H
      have p5 : 0 ≤ (0 : Int) := (by omega)
      have q5 : 0 < a0.size := (by have : (0 : Int) < (a0.size : Int) := yQ (by first | (with_reducible assumption) | assumption); omega)
      have hx5 : ∀ h : 0 < a0.size, ((a0[0]'h).toNat : Int) = bt a0 0 := bt_at a0 0
      clear p5
      have qi5 : (0 < (a0.size : Int)) = True := eq_true (yQ (by first | (with_reducible assumption) | assumption))
      replace q5 := eq_true q5
      have p8 : 0 ≤ (1 : Int) := (by omega)
      have q8 : 1 < a0.size := (by have : (1 : Int) < (a0.size : Int) := yQ (by first | (with_reducible assumption) | assumption); omega)
      have hx8 : ∀ h : 1 < a0.size, ((a0[1]'h).toNat : Int) = bt a0 1 := bt_at a0 1
      clear p8
      have qi8 : (1 < (a0.size : Int)) = True := eq_true (yQ (by first | (with_reducible assumption) | assumption))
      replace q8 := eq_true q8
      go_wp2
      go_meet
      case rel => exact ⟨_, (((bt a0 1) != 117)), (by first | rfl | (simp; done) | (simp [*]; done)), H', ⟨by first | omega | exact Nat.le_refl _⟩, by repeat (first | exact Drawn0.refl _ | apply Drawn0.step)⟩
     ·rw [if_neg c7] at H
      exact absurd H (by simp)
    ·rw [if_neg c6] at H
     have c6b0 : ((bt a0 0) == 92) = false := yB c6
     have c6b1 : ((bt a0 0) != 92) = true := bne_iff_ne.mpr c6
     have H' := yM H
     clear H
     have p5 : 0 ≤ (0 : Int) := (by omega)
     have q5 : 0 < a0.size := (by have : (0 : Int) < (a0.size : Int) := yQ (by first | (with_reducible assumption) | assumption); omega)
     have hx5 : ∀ h : 0 < a0.size, ((a0[0]'h).toNat : Int) = bt a0 0 := bt_at a0 0
     clear p5
     have qi5 : (0 < (a0.size : Int)) = True := eq_true (yQ (by first | (with_reducible assumption) | assumption))
     replace q5 := eq_true q5
     go_wp2
     go_meet
     case rel => exact ⟨_, (true), (by first | rfl | (simp; done) | (simp [*]; done)), H', ⟨by first | omega | exact Nat.le_refl _⟩, by repeat (first | exact Drawn0.refl _ | apply Drawn0.step)⟩
   ·rw [if_neg c4] at H
    exact absurd H (by simp)
 case rest =>
  clear HC2
  obtain ⟨kq, x19_1, rfl, HA, HJ1, ⟨mc1, rfl⟩⟩ := hcut
  cases kq with
  | zero => exact absurd HA.out (by simp [json_unit.j0])
  | succ kj1 =>
   have H := HA.out
   clear HA
   simp only [json_unit.j0] at H
   by_cases c9 : x19_1 = true
   ·subst c9
    have H1 : (some (0, false)) = some (r1, r2) := by rw [if_pos rfl] at H; exact H
    clear H
    have H := H1
    clear H1
    simp only [Option.some.injEq, Prod.mk.injEq] at H
    obtain ⟨rfl, rfl⟩ := H
    go_wp2
    go_ret2
    exact ⟨by first | rfl | (simp; done) | (simp [*]; done), by repeat (first | exact Drawn0.refl _ | apply Drawn0.step)⟩
   ·replace c9 := Bool.eq_false_iff.mpr c9
    subst c9
    have H1 : (json_unit.l0 kj1 a0 0 2) = some (r1, r2) := by rw [if_neg (show ¬ (false = true) by decide)] at H; exact H
    clear H
    have H := H1
    clear H1
    have H' := yM H
    clear H
    go_wp2
    go_loopg [4, 5] kj1 (fun kq v4 v5 w' => ∃ (x4_2 : Int) (x5_2 : Int), v4 = .int .i32 x4_2 ∧ v5 = .int .i64 x5_2 ∧ Aside0 (json_unit.l0 kq a0 x4_2 x5_2 = some (r1, r2)) ∧ Aside0 (kq ≤ kj1) ∧ Drawn0 w w')
    case atStart => exact ⟨(0), (2), (by first | rfl | (simp; done) | (simp [*]; done)), (by first | rfl | (simp; done) | (simp [*]; done)), H', ⟨Nat.le_refl _⟩, by repeat (first | exact Drawn0.refl _ | apply Drawn0.step)⟩
    case round =>
     clear H'
     obtain ⟨x4_2, x5_2, rfl, rfl, HA, HK2, ⟨m2, rfl⟩⟩ := hrel
     cases gk with
     | zero => exact absurd HA.out (by simp [json_unit.l0])
     | succ k2 =>
      have H := HA.out
      clear HA
      simp only [json_unit.l0] at H
      by_cases c10 : x5_2 < 6
      ·rw [if_pos c10] at H
       have c10b0 : decide (x5_2 < 6) = true := decide_eq_true c10
       clear c10
       by_cases c11 : 0 ≤ x5_2
       ·rw [if_pos c11] at H
        have c11b0 : decide (0 ≤ x5_2) = true := decide_eq_true c11
        clear c11
        by_cases c12 : x5_2 < (a0.size : Int)
        ·rw [if_pos c12] at H
         have c12b0 : decide (x5_2 < (a0.size : Int)) = true := decide_eq_true c12
         clear c12
         have HC14 := yM H
         clear H
         have p13 : 0 ≤ (x5_2 : Int) := yQ (by first | (with_reducible assumption) | assumption)
         have q13 : x5_2 < (a0.size : Int) := yQ (by first | (with_reducible assumption) | assumption)
         have hx13 := bt_at a0 x5_2
         replace p13 := eq_true p13
         replace q13 := eq_true q13
         go_upto_region 9 with (fail)
         go_cut [27] (fun v27 wc => ∃ (kq : Nat) (x27_13 : Bool), v27 = .bool x27_13 ∧ Aside0 (json_unit.j2 kq a0 x4_2 x5_2 (bt a0 x5_2) x27_13 = some (r1, r2)) ∧ Aside0 (kq ≤ k2) ∧ Drawn0 w wc)
         case first =>
          have H := HC14.out
          clear HC14
          by_cases c15 : (bt a0 x5_2) ≥ 48
          ·rw [if_pos c15] at H
           have c15b0 : decide (48 ≤ (bt a0 x5_2)) = true := decide_eq_true c15
           clear c15
           (first | rw [c15b0] | (simp only [i64_w, i32_w]; rw [c15b0]) | skip)
           have H' := yM H
           clear H
           go_wp2
           go_meet
           case rel => exact ⟨_, (decide ((bt a0 x5_2) ≤ 57)), (by first | rfl | (simp; done) | (simp [*]; done)), H', ⟨by have := HJ1.out; have := HK2.out; first | omega | exact Nat.le_refl _⟩, by repeat (first | exact Drawn0.refl _ | apply Drawn0.step)⟩
          ·rw [if_neg c15] at H
           have c15b0 : decide (48 ≤ (bt a0 x5_2)) = false := decide_eq_false c15
           clear c15
           (first | rw [c15b0] | (simp only [i64_w, i32_w]; rw [c15b0]) | skip)
           have H' := yM H
           clear H
           go_wp2
           go_meet
           case rel => exact ⟨_, (false), (by first | rfl | (simp; done) | (simp [*]; done)), H', ⟨by have := HJ1.out; have := HK2.out; first | omega | exact Nat.le_refl _⟩, by repeat (first | exact Drawn0.refl _ | apply Drawn0.step)⟩
         case rest =>
          clear HC14
          obtain ⟨kq, x27_13, rfl, HA, HJ13, ⟨mc13, rfl⟩⟩ := hcut
          cases kq with
          | zero => exact absurd HA.out (by simp [json_unit.j2])
          | succ kj13 =>
           have H := HA.out
           clear HA
           simp only [json_unit.j2] at H
           by_cases c16 : x27_13 = true
           ·subst c16
            have H1 : (json_unit.l0 kj13 a0 (Go.bits .or .i32 (wrap32 (x4_2 * 16)) (((bt a0 x5_2) - 48) % 256)) (wrap64 (x5_2 + 1))) = some (r1, r2) := by rw [if_pos rfl] at H; exact H
            clear H
            have H := H1
            clear H1
            have H' := yM H
            clear H
            go_wp2
            go_roundg kj13
            case measure => have := HJ1.out; have := HK2.out; have := HJ13.out; omega
            case rel => exact ⟨(Go.bits .or .i32 (wrap32 (x4_2 * 16)) (((bt a0 x5_2) - 48) % 256)), (wrap64 (x5_2 + 1)), (by first | rfl | (simp; done) | (simp [*]; done)), (by first | rfl | (simp; done) | (simp [*]; done)), H', ⟨by have := HJ1.out; have := HK2.out; have := HJ13.out; omega⟩, by repeat (first | exact Drawn0.refl _ | apply Drawn0.step)⟩
           ·replace c16 := Bool.eq_false_iff.mpr c16
            subst c16
            have H1 : (if (bt a0 x5_2) ≥ 97 then (json_unit.j3 kj13 a0 x4_2 x5_2 (bt a0 x5_2) (decide ((bt a0 x5_2) ≤ 102))) else (json_unit.j3 kj13 a0 x4_2 x5_2 (bt a0 x5_2) false)) = some (r1, r2) := by rw [if_neg (show ¬ (false = true) by decide)] at H; exact H
            clear H
            have H := H1
            clear H1
            have HC17 := yM H
            clear H
            go_upto_region 11 with (fail)
            go_cut [40] (fun v40 wc => ∃ (kq : Nat) (x40_16 : Bool), v40 = .bool x40_16 ∧ Aside0 (json_unit.j3 kq a0 x4_2 x5_2 (bt a0 x5_2) x40_16 = some (r1, r2)) ∧ Aside0 (kq ≤ kj13) ∧ Drawn0 w wc)
            case first =>
             have H := HC17.out
             clear HC17
             by_cases c18 : (bt a0 x5_2) ≥ 97
             ·rw [if_pos c18] at H
              have c18b0 : decide (97 ≤ (bt a0 x5_2)) = true := decide_eq_true c18
              clear c18
              (first | rw [c18b0] | (simp only [i64_w, i32_w]; rw [c18b0]) | skip)
              have H' := yM H
              clear H
              go_wp2
              go_meet
              case rel => exact ⟨_, (decide ((bt a0 x5_2) ≤ 102)), (by first | rfl | (simp; done) | (simp [*]; done)), H', ⟨by have := HJ1.out; have := HK2.out; have := HJ13.out; first | omega | exact Nat.le_refl _⟩, by repeat (first | exact Drawn0.refl _ | apply Drawn0.step)⟩
             ·rw [if_neg c18] at H
              have c18b0 : decide (97 ≤ (bt a0 x5_2)) = false := decide_eq_false c18
              clear c18
              (first | rw [c18b0] | (simp only [i64_w, i32_w]; rw [c18b0]) | skip)
              have H' := yM H
              clear H
              go_wp2
              go_meet
              case rel => exact ⟨_, (false), (by first | rfl | (simp; done) | (simp [*]; done)), H', ⟨by have := HJ1.out; have := HK2.out; have := HJ13.out; first | omega | exact Nat.le_refl _⟩, by repeat (first | exact Drawn0.refl _ | apply Drawn0.step)⟩
            case rest =>
             clear HC17
             obtain ⟨kq, x40_16, rfl, HA, HJ16, ⟨mc16, rfl⟩⟩ := hcut
             cases kq with
             | zero => exact absurd HA.out (by simp [json_unit.j3])
             | succ kj16 =>
              have H := HA.out
              clear HA
              simp only [json_unit.j3] at H
              by_cases c19 : x40_16 = true
              ·subst c19
               have H1 : (json_unit.l0 kj16 a0 (Go.bits .or .i32 (wrap32 (x4_2 * 16)) (((((bt a0 x5_2) - 97) % 256) + 10) % 256)) (wrap64 (x5_2 + 1))) = some (r1, r2) := by rw [if_pos rfl] at H; exact H
               clear H
               have H := H1
               clear H1
               have H' := yM H
               clear H
               go_wp2
               go_roundg kj16
               case measure => have := HJ1.out; have := HK2.out; have := HJ13.out; have := HJ16.out; omega
               case rel => exact ⟨(Go.bits .or .i32 (wrap32 (x4_2 * 16)) (((((bt a0 x5_2) - 97) % 256) + 10) % 256)), (wrap64 (x5_2 + 1)), (by first | rfl | (simp; done) | (simp [*]; done)), (by first | rfl | (simp; done) | (simp [*]; done)), H', ⟨by have := HJ1.out; have := HK2.out; have := HJ13.out; have := HJ16.out; omega⟩, by repeat (first | exact Drawn0.refl _ | apply Drawn0.step)⟩
              ·replace c19 := Bool.eq_false_iff.mpr c19
               subst c19
               have H1 : (if (bt a0 x5_2) ≥ 65 then (if (bt a0 x5_2) ≤ 70 then (json_unit.l0 kj16 a0 (Go.bits .or .i32 (wrap32 (x4_2 * 16)) (((((bt a0 x5_2) - 65) % 256) + 10) % 256)) (wrap64 (x5_2 + 1))) else (some (0, false))) else (some (0, false))) = some (r1, r2) := by rw [if_neg (show ¬ (false = true) by decide)] at H; exact H
               clear H
               have H := H1
               clear H1
               by_cases c20 : (bt a0 x5_2) ≥ 65
               ·rw [if_pos c20] at H
                have c20b0 : decide (65 ≤ (bt a0 x5_2)) = true := decide_eq_true c20
                clear c20
                by_cases c21 : (bt a0 x5_2) ≤ 70
                ·rw [if_pos c21] at H
                 have c21b0 : decide ((bt a0 x5_2) ≤ 70) = true := decide_eq_true c21
                 clear c21
                 have H' := yM H
                 clear H
                 go_wp2
                 go_roundg kj16
                 case measure => have := HJ1.out; have := HK2.out; have := HJ13.out; have := HJ16.out; omega
                 case rel => exact ⟨(Go.bits .or .i32 (wrap32 (x4_2 * 16)) (((((bt a0 x5_2) - 65) % 256) + 10) % 256)), (wrap64 (x5_2 + 1)), (by first | rfl | (simp; done) | (simp [*]; done)), (by first | rfl | (simp; done) | (simp [*]; done)), H', ⟨by have := HJ1.out; have := HK2.out; have := HJ13.out; have := HJ16.out; omega⟩, by repeat (first | exact Drawn0.refl _ | apply Drawn0.step)⟩
                ·rw [if_neg c21] at H
                 have c21b0 : decide ((bt a0 x5_2) ≤ 70) = false := decide_eq_false c21
                 clear c21
                 simp only [Option.some.injEq, Prod.mk.injEq] at H
                 obtain ⟨rfl, rfl⟩ := H
                 go_wp2
                 go_ret2
                 exact ⟨by first | rfl | (simp; done) | (simp [*]; done), by repeat (first | exact Drawn0.refl _ | apply Drawn0.step)⟩
               ·rw [if_neg c20] at H
                have c20b0 : decide (65 ≤ (bt a0 x5_2)) = false := decide_eq_false c20
                clear c20
                simp only [Option.some.injEq, Prod.mk.injEq] at H
                obtain ⟨rfl, rfl⟩ := H
                go_wp2
                go_ret2
                exact ⟨by first | rfl | (simp; done) | (simp [*]; done), by repeat (first | exact Drawn0.refl _ | apply Drawn0.step)⟩
        ·rw [if_neg c12] at H
         exact absurd H (by simp)
       ·rw [if_neg c11] at H
        exact absurd H (by simp)
      ·rw [if_neg c10] at H
       have c10b0 : decide (x5_2 < 6) = false := decide_eq_false c10
       clear c10
       simp only [Option.some.injEq, Prod.mk.injEq] at H
       obtain ⟨rfl, rfl⟩ := H
       go_wp2
       go_ret2
       exact ⟨by first | rfl | (simp; done) | (simp [*]; done), by repeat (first | exact Drawn0.refl _ | apply Drawn0.step)⟩
mutual
def json_escaped.j0 : Nat → ByteArray → Int → Bool → Option (Int × Int)
 | 0, _, _, _ => none
 | k + 1, x0, x4, x12 => if x12 = true then (some (0, 0)) else (if x4 < 55296 then (json_escaped.j1 k x0 x4 true) else (json_escaped.j1 k x0 x4 (decide (x4 > 56319))))
def json_escaped.j1 : Nat → ByteArray → Int → Bool → Option (Int × Int)
 | 0, _, _, _ => none
 | k + 1, x0, x4, x21 => if x21 = true then (some (x4, 6)) else (if 6 ≤ (x0.size : Int) then ((json_unit.f k (x0.extract 6 x0.size)).bind fun bt322 => (if bt322.2 = true then (if bt322.1 < 56320 then (some (0, 0)) else (if bt322.1 > 57343 then (some (0, 0)) else (some (wrap32 ((wrap32 (65536 + (wrap32 ((wrap32 (x4 - 55296)) * 1024)))) + (wrap32 (bt322.1 - 56320))), 12)))) else (some (0, 0)))) else (none))
end
def json_escaped.f (k : Nat) (a0 : ByteArray) : Option (Int × Int) := (json_unit.f k a0).bind fun bt320 => (if bt320.2 = true then (if bt320.1 ≥ 56320 then (json_escaped.j0 k a0 bt320.1 (decide (bt320.1 ≤ 57343))) else (json_escaped.j0 k a0 bt320.1 false)) else (json_escaped.j0 k a0 bt320.1 (!bt320.2)))
theorem json_escaped.mono_l : ∀ k, (∀ y0 y1 y2, LeO (json_escaped.j0 k y0 y1 y2) (json_escaped.j0 (k + 1) y0 y1 y2)) ∧ (∀ y0 y1 y2, LeO (json_escaped.j1 k y0 y1 y2) (json_escaped.j1 (k + 1) y0 y1 y2))
 | 0 => ⟨fun _ _ _ r h => by simp [json_escaped.j0] at h, fun _ _ _ r h => by simp [json_escaped.j1] at h⟩
 | k + 1 => by
  obtain ⟨ih0, ih1⟩ := json_escaped.mono_l k
  refine ⟨?_, ?_⟩
  ·intro y0 y1 y2
   unfold json_escaped.j0
   repeat' first
   | (with_reducible exact ih0 _ _ _)
   | (with_reducible exact ih1 _ _ _)
   | (with_reducible exact json_unit.mono _ _)
   | (with_reducible exact LeO.refl _)
   | (with_reducible exact LeO.none _)
   | (with_reducible refine LeO.ite ?_ ?_)
   | (with_reducible refine LeO.bind ?_ (fun _ => ?_))
   | exact ih0 _ _ _
   | exact ih1 _ _ _
   | exact json_unit.mono _ _
   | exact LeO.none _
   | refine LeO.ite ?_ ?_
   | refine LeO.bind ?_ (fun _ => ?_)
  ·intro y0 y1 y2
   unfold json_escaped.j1
   repeat' first
   | (with_reducible exact ih0 _ _ _)
   | (with_reducible exact ih1 _ _ _)
   | (with_reducible exact json_unit.mono _ _)
   | (with_reducible exact LeO.refl _)
   | (with_reducible exact LeO.none _)
   | (with_reducible refine LeO.ite ?_ ?_)
   | (with_reducible refine LeO.bind ?_ (fun _ => ?_))
   | exact ih0 _ _ _
   | exact ih1 _ _ _
   | exact json_unit.mono _ _
   | exact LeO.none _
   | refine LeO.ite ?_ ?_
   | refine LeO.bind ?_ (fun _ => ?_)
theorem json_escaped.mono : ∀ a0 k, LeO (json_escaped.f k a0) (json_escaped.f (k + 1) a0) := by
 intro a0 k
 obtain ⟨ih0, ih1⟩ := json_escaped.mono_l k
 unfold json_escaped.f
 repeat' first
   | (with_reducible exact ih0 _ _ _)
   | (with_reducible exact ih1 _ _ _)
   | (with_reducible exact json_unit.mono _ _)
   | (with_reducible exact LeO.refl _)
   | (with_reducible exact LeO.none _)
   | (with_reducible refine LeO.ite ?_ ?_)
   | (with_reducible refine LeO.bind ?_ (fun _ => ?_))
   | exact ih0 _ _ _
   | exact ih1 _ _ _
   | exact json_unit.mono _ _
   | exact LeO.none _
   | refine LeO.ite ?_ ?_
   | refine LeO.bind ?_ (fun _ => ?_)
set_option maxHeartbeats 8000000 in
set_option maxRecDepth 100000 in
theorem json_escaped.calls (k : Nat) (a0 : ByteArray) (r1 : Int) (r2 : Int) (w : World) (h : json_escaped.f k a0 = some (r1, r2)) :
  Calls Tryd.prog 74 #[.string a0] w fun e w' => e = .returned (.tuple #[.int .i32 r1, .int .i64 r2]) ∧ Drawn0 w w' := by
 have H : ((json_unit.f k a0).bind fun bt320 => (if bt320.2 = true then (if bt320.1 ≥ 56320 then (json_escaped.j0 k a0 bt320.1 (decide (bt320.1 ≤ 57343))) else (json_escaped.j0 k a0 bt320.1 false)) else (json_escaped.j0 k a0 bt320.1 (!bt320.2)))) = some (r1, r2) := h
 clear h
 replace H := yO H
 obtain ⟨⟨t320, t321⟩, A20, H⟩ := H
 replace H : (if t321 = true then (if t320 ≥ 56320 then (json_escaped.j0 k a0 t320 (decide (t320 ≤ 57343))) else (json_escaped.j0 k a0 t320 false)) else (json_escaped.j0 k a0 t320 (!t321))) = some (r1, r2) := H
 have A2 := yM A20
 clear A20
 have HC3 := yM H
 clear H
 go_enter Tryd.func74, Tryd.ntmps74
 go_upto_if 12 with (first | ((with_reducible refine gate_callee (f := 83) rfl ?_); refine goesL_ (some 9) rfl rfl Tryd.func83 (by kernel_rfl) rfl #[.string a0] rfl (by (try simp only [List.map_toArray, List.map_cons, List.map_nil]); first | done | rfl | (simp only [List.length_drop, List.length_take]; rfl)) ?_; (with_reducible refine (json_unit.calls k a0 t320 t321 _ A2.out).mono ?_); rintro e w' ⟨rfl, ⟨nd, rfl⟩⟩; refine ⟨_, rfl, ?_⟩))
 (try simp only [Act.put, yX, yY, yZ])
 go_cut [12] (fun v12 wc => ∃ (kq : Nat) (x12_2 : Bool), v12 = .bool x12_2 ∧ Aside0 (json_escaped.j0 kq a0 t320 x12_2 = some (r1, r2)) ∧ Aside0 (kq ≤ k) ∧ Drawn0 w wc)
 case first =>
  have H := HC3.out
  clear HC3
  by_cases c4 : t321 = true
  ·subst c4
   have H1 : (if t320 ≥ 56320 then (json_escaped.j0 k a0 t320 (decide (t320 ≤ 57343))) else (json_escaped.j0 k a0 t320 false)) = some (r1, r2) := by rw [if_pos rfl] at H; exact H
   clear H
   have H := H1
   clear H1
   by_cases c5 : t320 ≥ 56320
   ·rw [if_pos c5] at H
    have c5b0 : decide (56320 ≤ t320) = true := decide_eq_true c5
    clear c5
    (first | rw [c5b0] | (simp only [i64_w, i32_w]; rw [c5b0]) | skip)
    have H' := yM H
    clear H
    go_wp2
    go_meet
    case rel => exact ⟨_, (decide (t320 ≤ 57343)), (by first | rfl | (simp; done) | (simp [*]; done)), H', ⟨by first | omega | exact Nat.le_refl _⟩, by repeat (first | exact Drawn0.refl _ | apply Drawn0.step)⟩
   ·rw [if_neg c5] at H
    have c5b0 : decide (56320 ≤ t320) = false := decide_eq_false c5
    clear c5
    (first | rw [c5b0] | (simp only [i64_w, i32_w]; rw [c5b0]) | skip)
    have H' := yM H
    clear H
    go_wp2
    go_meet
    case rel => exact ⟨_, (false), (by first | rfl | (simp; done) | (simp [*]; done)), H', ⟨by first | omega | exact Nat.le_refl _⟩, by repeat (first | exact Drawn0.refl _ | apply Drawn0.step)⟩
  ·replace c4 := Bool.eq_false_iff.mpr c4
   subst c4
   have H1 : (json_escaped.j0 k a0 t320 (!false)) = some (r1, r2) := by rw [if_neg (show ¬ (false = true) by decide)] at H; exact H
   clear H
   have H := H1
   clear H1
   have H' := yM H
   clear H
   go_wp2
   go_meet
   case rel => exact ⟨_, (!false), (by first | rfl | (simp; done) | (simp [*]; done)), H', ⟨by first | omega | exact Nat.le_refl _⟩, by repeat (first | exact Drawn0.refl _ | apply Drawn0.step)⟩
 case rest =>
  clear HC3
  obtain ⟨kq, x12_2, rfl, HA, HJ2, ⟨mc2, rfl⟩⟩ := hcut
  cases kq with
  | zero => exact absurd HA.out (by simp [json_escaped.j0])
  | succ kj2 =>
   have H := HA.out
   clear HA
   simp only [json_escaped.j0] at H
   by_cases c6 : x12_2 = true
   ·subst c6
    have H1 : (some (0, 0)) = some (r1, r2) := by rw [if_pos rfl] at H; exact H
    clear H
    have H := H1
    clear H1
    simp only [Option.some.injEq, Prod.mk.injEq] at H
    obtain ⟨rfl, rfl⟩ := H
    go_wp2
    go_ret2
    exact ⟨by first | rfl | (simp; done) | (simp [*]; done), by repeat (first | exact Drawn0.refl _ | apply Drawn0.step)⟩
   ·replace c6 := Bool.eq_false_iff.mpr c6
    subst c6
    have H1 : (if t320 < 55296 then (json_escaped.j1 kj2 a0 t320 true) else (json_escaped.j1 kj2 a0 t320 (decide (t320 > 56319)))) = some (r1, r2) := by rw [if_neg (show ¬ (false = true) by decide)] at H; exact H
    clear H
    have H := H1
    clear H1
    have HC7 := yM H
    clear H
    go_upto_region 5 with (fail)
    go_cut [21] (fun v21 wc => ∃ (kq : Nat) (x21_6 : Bool), v21 = .bool x21_6 ∧ Aside0 (json_escaped.j1 kq a0 t320 x21_6 = some (r1, r2)) ∧ Aside0 (kq ≤ kj2) ∧ Drawn0 w wc)
    case first =>
     have H := HC7.out
     clear HC7
     by_cases c8 : t320 < 55296
     ·rw [if_pos c8] at H
      have c8b0 : decide (t320 < 55296) = true := decide_eq_true c8
      clear c8
      (first | rw [c8b0] | (simp only [i64_w, i32_w]; rw [c8b0]) | skip)
      have H' := yM H
      clear H
      go_wp2
      go_meet
      case rel => exact ⟨_, (true), (by first | rfl | (simp; done) | (simp [*]; done)), H', ⟨by have := HJ2.out; first | omega | exact Nat.le_refl _⟩, by repeat (first | exact Drawn0.refl _ | apply Drawn0.step)⟩
     ·rw [if_neg c8] at H
      have c8b0 : decide (t320 < 55296) = false := decide_eq_false c8
      clear c8
      (first | rw [c8b0] | (simp only [i64_w, i32_w]; rw [c8b0]) | skip)
      have H' := yM H
      clear H
      go_wp2
      go_meet
      case rel => exact ⟨_, (decide (t320 > 56319)), (by first | rfl | (simp; done) | (simp [*]; done)), H', ⟨by have := HJ2.out; first | omega | exact Nat.le_refl _⟩, by repeat (first | exact Drawn0.refl _ | apply Drawn0.step)⟩
    case rest =>
     clear HC7
     obtain ⟨kq, x21_6, rfl, HA, HJ6, ⟨mc6, rfl⟩⟩ := hcut
     cases kq with
     | zero => exact absurd HA.out (by simp [json_escaped.j1])
     | succ kj6 =>
      have H := HA.out
      clear HA
      simp only [json_escaped.j1] at H
      by_cases c9 : x21_6 = true
      ·subst c9
       have H1 : (some (t320, 6)) = some (r1, r2) := by rw [if_pos rfl] at H; exact H
       clear H
       have H := H1
       clear H1
       simp only [Option.some.injEq, Prod.mk.injEq] at H
       obtain ⟨rfl, rfl⟩ := H
       go_wp2
       go_ret2
       exact ⟨by first | rfl | (simp; done) | (simp [*]; done), by repeat (first | exact Drawn0.refl _ | apply Drawn0.step)⟩
      ·replace c9 := Bool.eq_false_iff.mpr c9
       subst c9
       have H1 : (if 6 ≤ (a0.size : Int) then ((json_unit.f kj6 (a0.extract 6 a0.size)).bind fun bt322 => (if bt322.2 = true then (if bt322.1 < 56320 then (some (0, 0)) else (if bt322.1 > 57343 then (some (0, 0)) else (some (wrap32 ((wrap32 (65536 + (wrap32 ((wrap32 (t320 - 55296)) * 1024)))) + (wrap32 (bt322.1 - 56320))), 12)))) else (some (0, 0)))) else (none)) = some (r1, r2) := by rw [if_neg (show ¬ (false = true) by decide)] at H; exact H
       clear H
       have H := H1
       clear H1
       by_cases c10 : 6 ≤ (a0.size : Int)
       ·rw [if_pos c10] at H
        have c10b0 := eq_true c10
        have c10b1 : decide (6 ≤ (a0.size : Int)) = true := decide_eq_true c10
        clear c10
        replace H := yO H
        obtain ⟨⟨t322, t323⟩, A110, H⟩ := H
        replace H : (if t323 = true then (if t322 < 56320 then (some (0, 0)) else (if t322 > 57343 then (some (0, 0)) else (some (wrap32 ((wrap32 (65536 + (wrap32 ((wrap32 (t320 - 55296)) * 1024)))) + (wrap32 (t322 - 56320))), 12)))) else (some (0, 0))) = some (r1, r2) := H
        have A11 := yM A110
        clear A110
        by_cases c12 : t323 = true
        ·subst c12
         have H1 : (if t322 < 56320 then (some (0, 0)) else (if t322 > 57343 then (some (0, 0)) else (some (wrap32 ((wrap32 (65536 + (wrap32 ((wrap32 (t320 - 55296)) * 1024)))) + (wrap32 (t322 - 56320))), 12)))) = some (r1, r2) := by rw [if_pos rfl] at H; exact H
         clear H
         have H := H1
         clear H1
         by_cases c13 : t322 < 56320
         ·rw [if_pos c13] at H
          have c13b0 : decide (t322 < 56320) = true := decide_eq_true c13
          clear c13
          simp only [Option.some.injEq, Prod.mk.injEq] at H
          obtain ⟨rfl, rfl⟩ := H
          go_wp2_with (first | ((with_reducible refine gate_callee (f := 83) rfl ?_); refine goesL_ (some 32) rfl rfl Tryd.func83 (by kernel_rfl) rfl #[.string (a0.extract 6 a0.size)] rfl (by (try simp only [List.map_toArray, List.map_cons, List.map_nil]); first | done | rfl | (simp only [List.length_drop, List.length_take]; rfl)) ?_; (with_reducible refine (json_unit.calls kj6 (a0.extract 6 a0.size) t322 true _ A11.out).mono ?_); rintro e w' ⟨rfl, ⟨nd, rfl⟩⟩; refine ⟨_, rfl, ?_⟩))
          go_ret2
          exact ⟨by first | rfl | (simp; done) | (simp [*]; done), by repeat (first | exact Drawn0.refl _ | apply Drawn0.step)⟩
         ·rw [if_neg c13] at H
          have c13b0 : decide (t322 < 56320) = false := decide_eq_false c13
          clear c13
          by_cases c14 : t322 > 57343
          ·rw [if_pos c14] at H
           have c14b0 : decide (57343 < t322) = true := decide_eq_true c14
           clear c14
           simp only [Option.some.injEq, Prod.mk.injEq] at H
           obtain ⟨rfl, rfl⟩ := H
           go_wp2_with (first | ((with_reducible refine gate_callee (f := 83) rfl ?_); refine goesL_ (some 32) rfl rfl Tryd.func83 (by kernel_rfl) rfl #[.string (a0.extract 6 a0.size)] rfl (by (try simp only [List.map_toArray, List.map_cons, List.map_nil]); first | done | rfl | (simp only [List.length_drop, List.length_take]; rfl)) ?_; (with_reducible refine (json_unit.calls kj6 (a0.extract 6 a0.size) t322 true _ A11.out).mono ?_); rintro e w' ⟨rfl, ⟨nd, rfl⟩⟩; refine ⟨_, rfl, ?_⟩))
           go_ret2
           exact ⟨by first | rfl | (simp; done) | (simp [*]; done), by repeat (first | exact Drawn0.refl _ | apply Drawn0.step)⟩
          ·rw [if_neg c14] at H
           have c14b0 : decide (57343 < t322) = false := decide_eq_false c14
           clear c14
           simp only [Option.some.injEq, Prod.mk.injEq] at H
           obtain ⟨rfl, rfl⟩ := H
           go_wp2_with (first | ((with_reducible refine gate_callee (f := 83) rfl ?_); refine goesL_ (some 32) rfl rfl Tryd.func83 (by kernel_rfl) rfl #[.string (a0.extract 6 a0.size)] rfl (by (try simp only [List.map_toArray, List.map_cons, List.map_nil]); first | done | rfl | (simp only [List.length_drop, List.length_take]; rfl)) ?_; (with_reducible refine (json_unit.calls kj6 (a0.extract 6 a0.size) t322 true _ A11.out).mono ?_); rintro e w' ⟨rfl, ⟨nd, rfl⟩⟩; refine ⟨_, rfl, ?_⟩))
           go_ret2
           exact ⟨by first | rfl | (simp; done) | (simp [*]; done), by repeat (first | exact Drawn0.refl _ | apply Drawn0.step)⟩
        ·replace c12 := Bool.eq_false_iff.mpr c12
         subst c12
         have H1 : (some (0, 0)) = some (r1, r2) := by rw [if_neg (show ¬ (false = true) by decide)] at H; exact H
         clear H
         have H := H1
         clear H1
         simp only [Option.some.injEq, Prod.mk.injEq] at H
         obtain ⟨rfl, rfl⟩ := H
         go_wp2_with (first | ((with_reducible refine gate_callee (f := 83) rfl ?_); refine goesL_ (some 32) rfl rfl Tryd.func83 (by kernel_rfl) rfl #[.string (a0.extract 6 a0.size)] rfl (by (try simp only [List.map_toArray, List.map_cons, List.map_nil]); first | done | rfl | (simp only [List.length_drop, List.length_take]; rfl)) ?_; (with_reducible refine (json_unit.calls kj6 (a0.extract 6 a0.size) t322 false _ A11.out).mono ?_); rintro e w' ⟨rfl, ⟨nd, rfl⟩⟩; refine ⟨_, rfl, ?_⟩))
         go_ret2
         exact ⟨by first | rfl | (simp; done) | (simp [*]; done), by repeat (first | exact Drawn0.refl _ | apply Drawn0.step)⟩
       ·rw [if_neg c10] at H
        exact absurd H (by simp)
def json_meant.j0 : Nat → Int → Int → Bool → Option (Int)
 | 0, _, _, _ => none
 | k + 1, x0, x3, x4 => if x4 = true then (some x0) else (if x3 = 98 then (some 8) else (if x3 = 102 then (some 12) else (if x3 = 110 then (some 10) else (if x3 = 114 then (some 13) else (if x3 = 116 then (some 9) else (some 0))))))
def json_meant.f (k : Nat) (a0 : Int) : Option (Int) := if a0 = 34 then (json_meant.j0 k a0 a0 (a0 == 34)) else (if a0 = 92 then (json_meant.j0 k a0 a0 (a0 == 92)) else (json_meant.j0 k a0 a0 (a0 == 47)))
theorem json_meant.mono_l : ∀ k, (∀ y0 y1 y2, LeO (json_meant.j0 k y0 y1 y2) (json_meant.j0 (k + 1) y0 y1 y2))
 | 0 => fun _ _ _ r h => by simp [json_meant.j0] at h
 | k + 1 => by
  have ih0 := json_meant.mono_l k
  ·intro y0 y1 y2
   unfold json_meant.j0
   repeat' first
   | (with_reducible exact ih0 _ _ _)
   | (with_reducible exact LeO.refl _)
   | (with_reducible exact LeO.none _)
   | (with_reducible refine LeO.ite ?_ ?_)
   | (with_reducible refine LeO.bind ?_ (fun _ => ?_))
   | exact ih0 _ _ _
   | exact LeO.none _
   | refine LeO.ite ?_ ?_
   | refine LeO.bind ?_ (fun _ => ?_)
theorem json_meant.mono : ∀ a0 k, LeO (json_meant.f k a0) (json_meant.f (k + 1) a0) := by
 intro a0 k
 have ih0 := json_meant.mono_l k
 unfold json_meant.f
 repeat' first
   | (with_reducible exact ih0 _ _ _)
   | (with_reducible exact LeO.refl _)
   | (with_reducible exact LeO.none _)
   | (with_reducible refine LeO.ite ?_ ?_)
   | (with_reducible refine LeO.bind ?_ (fun _ => ?_))
   | exact ih0 _ _ _
   | exact LeO.none _
   | refine LeO.ite ?_ ?_
   | refine LeO.bind ?_ (fun _ => ?_)
set_option maxHeartbeats 8000000 in
set_option maxRecDepth 100000 in
theorem json_meant.calls (k : Nat) (a0 : Int) (r : Int) (w : World) (h : json_meant.f k a0 = some r) :
  Calls Tryd.prog 73 #[.int .u8 a0] w fun e w' => e = .returned (.int .u8 r) ∧ Drawn0 w w' := by
 have H : (if a0 = 34 then (json_meant.j0 k a0 a0 (a0 == 34)) else (if a0 = 92 then (json_meant.j0 k a0 a0 (a0 == 92)) else (json_meant.j0 k a0 a0 (a0 == 47)))) = some r := h
 clear h
 have HC2 := yM H
 clear H
 go_enter Tryd.func73, Tryd.ntmps73
 go_upto_if 4 with (fail)
 go_cut [4] (fun v4 wc => ∃ (kq : Nat) (x4_1 : Bool), v4 = .bool x4_1 ∧ Aside0 (json_meant.j0 kq a0 a0 x4_1 = some r) ∧ Aside0 (kq ≤ k) ∧ Drawn0 w wc)
 case first =>
  have H := HC2.out
  clear HC2
  by_cases c3 : a0 = 34
  ·rw [if_pos c3] at H
   have c3b0 : (a0 == 34) = true := beq_iff_eq.mpr c3
   have c3b1 : (a0 != 34) = false := bne_eq_false_iff_eq.mpr c3
   clear c3
   (first | rw [c3b0] | (simp only [i64_w, i32_w]; rw [c3b0]) | skip)
   have H' := yM H
   clear H
   go_wp2
   go_meet
   case rel => exact ⟨_, ((a0 == 34)), (by first | rfl | (simp; done) | (simp [*]; done)), H', ⟨by first | omega | exact Nat.le_refl _⟩, by repeat (first | exact Drawn0.refl _ | apply Drawn0.step)⟩
  ·rw [if_neg c3] at H
   have c3b0 : (a0 == 34) = false := yB c3
   have c3b1 : (a0 != 34) = true := bne_iff_ne.mpr c3
   (first | rw [c3b0] | (simp only [i64_w, i32_w]; rw [c3b0]) | skip)
   by_cases c4 : a0 = 92
   ·rw [if_pos c4] at H
    have c4b0 : (a0 == 92) = true := beq_iff_eq.mpr c4
    have c4b1 : (a0 != 92) = false := bne_eq_false_iff_eq.mpr c4
    clear c4
    have H' := yM H
    clear H
    go_wp2
    go_meet
    case rel => exact ⟨_, ((a0 == 92)), (by first | rfl | (simp; done) | (simp [*]; done)), H', ⟨by first | omega | exact Nat.le_refl _⟩, by repeat (first | exact Drawn0.refl _ | apply Drawn0.step)⟩
   ·rw [if_neg c4] at H
    have c4b0 : (a0 == 92) = false := yB c4
    have c4b1 : (a0 != 92) = true := bne_iff_ne.mpr c4
    have H' := yM H
    clear H
    go_wp2
    go_meet
    case rel => exact ⟨_, ((a0 == 47)), (by first | rfl | (simp; done) | (simp [*]; done)), H', ⟨by first | omega | exact Nat.le_refl _⟩, by repeat (first | exact Drawn0.refl _ | apply Drawn0.step)⟩
 case rest =>
  clear HC2
  obtain ⟨kq, x4_1, rfl, HA, HJ1, ⟨mc1, rfl⟩⟩ := hcut
  cases kq with
  | zero => exact absurd HA.out (by simp [json_meant.j0])
  | succ kj1 =>
   have H := HA.out
   clear HA
   simp only [json_meant.j0] at H
   by_cases c5 : x4_1 = true
   ·subst c5
    have H1 : (some a0) = some r := by rw [if_pos rfl] at H; exact H
    clear H
    have H := H1
    clear H1
    obtain rfl := Option.some.inj H
    go_wp2
    go_ret
    exact ⟨by first | rfl | (simp; done) | (simp [*]; done), by repeat (first | exact Drawn0.refl _ | apply Drawn0.step)⟩
   ·replace c5 := Bool.eq_false_iff.mpr c5
    subst c5
    have H1 : (if a0 = 98 then (some 8) else (if a0 = 102 then (some 12) else (if a0 = 110 then (some 10) else (if a0 = 114 then (some 13) else (if a0 = 116 then (some 9) else (some 0)))))) = some r := by rw [if_neg (show ¬ (false = true) by decide)] at H; exact H
    clear H
    have H := H1
    clear H1
    by_cases c6 : a0 = 98
    ·rw [if_pos c6] at H
     have c6b0 : (a0 == 98) = true := beq_iff_eq.mpr c6
     have c6b1 : (a0 != 98) = false := bne_eq_false_iff_eq.mpr c6
     clear c6
     obtain rfl := Option.some.inj H
     go_wp2
     go_ret
     exact ⟨by first | rfl | (simp; done) | (simp [*]; done), by repeat (first | exact Drawn0.refl _ | apply Drawn0.step)⟩
    ·rw [if_neg c6] at H
     have c6b0 : (a0 == 98) = false := yB c6
     have c6b1 : (a0 != 98) = true := bne_iff_ne.mpr c6
     by_cases c7 : a0 = 102
     ·rw [if_pos c7] at H
      have c7b0 : (a0 == 102) = true := beq_iff_eq.mpr c7
      have c7b1 : (a0 != 102) = false := bne_eq_false_iff_eq.mpr c7
      clear c7
      obtain rfl := Option.some.inj H
      go_wp2
      go_ret
      exact ⟨by first | rfl | (simp; done) | (simp [*]; done), by repeat (first | exact Drawn0.refl _ | apply Drawn0.step)⟩
     ·rw [if_neg c7] at H
      have c7b0 : (a0 == 102) = false := yB c7
      have c7b1 : (a0 != 102) = true := bne_iff_ne.mpr c7
      by_cases c8 : a0 = 110
      ·rw [if_pos c8] at H
       have c8b0 : (a0 == 110) = true := beq_iff_eq.mpr c8
       have c8b1 : (a0 != 110) = false := bne_eq_false_iff_eq.mpr c8
       clear c8
       obtain rfl := Option.some.inj H
       go_wp2
       go_ret
       exact ⟨by first | rfl | (simp; done) | (simp [*]; done), by repeat (first | exact Drawn0.refl _ | apply Drawn0.step)⟩
      ·rw [if_neg c8] at H
       have c8b0 : (a0 == 110) = false := yB c8
       have c8b1 : (a0 != 110) = true := bne_iff_ne.mpr c8
       by_cases c9 : a0 = 114
       ·rw [if_pos c9] at H
        have c9b0 : (a0 == 114) = true := beq_iff_eq.mpr c9
        have c9b1 : (a0 != 114) = false := bne_eq_false_iff_eq.mpr c9
        clear c9
        obtain rfl := Option.some.inj H
        go_wp2
        go_ret
        exact ⟨by first | rfl | (simp; done) | (simp [*]; done), by repeat (first | exact Drawn0.refl _ | apply Drawn0.step)⟩
       ·rw [if_neg c9] at H
        have c9b0 : (a0 == 114) = false := yB c9
        have c9b1 : (a0 != 114) = true := bne_iff_ne.mpr c9
        by_cases c10 : a0 = 116
        ·rw [if_pos c10] at H
         have c10b0 : (a0 == 116) = true := beq_iff_eq.mpr c10
         have c10b1 : (a0 != 116) = false := bne_eq_false_iff_eq.mpr c10
         clear c10
         obtain rfl := Option.some.inj H
         go_wp2
         go_ret
         exact ⟨by first | rfl | (simp; done) | (simp [*]; done), by repeat (first | exact Drawn0.refl _ | apply Drawn0.step)⟩
        ·rw [if_neg c10] at H
         have c10b0 : (a0 == 116) = false := yB c10
         have c10b1 : (a0 != 116) = true := bne_iff_ne.mpr c10
         obtain rfl := Option.some.inj H
         go_wp2
         go_ret
         exact ⟨by first | rfl | (simp; done) | (simp [*]; done), by repeat (first | exact Drawn0.refl _ | apply Drawn0.step)⟩
end Go.Proofs.YtbpiahpkbapijaaDoor.J
end
