/- Lemmas and walks for the claim; no condition beyond what each states. -/
import Derived.Test.YtbpiahpkbapijaaDoorQ3
section
namespace Go.Proofs.YtbpiahpkbapijaaDoor.A
open Go.RowKit Go.Proofs.YtbpiahpkbapijaaDoorW.PrintWords Go.Proofs.YtbpiahpkbapijaaDoorW.PrintLast Go.Proofs.YtbpiahpkbapijaaDoorW.PrintMore
attribute [local go_sem] max2_int min2_int max_two min_two max_three min_three max_four min_four
set_option linter.unusedVariables false
set_option linter.unusedSimpArgs false
attribute [local go_sem high] eqA31
theorem infoTok : (Tryd.prog.info? 31).map (fun i => (i.zero, i.size, i.bytes)) = some (some (.agg #[(.int .i64 0), (.int .i64 0), (.string ⟨#[]⟩)]), 3, 32) := by kernel_rfl
def fnOf (c : Int) : Nat := if c = 0 then 21 else if c = 1 then 22 else if c = 2 then 23 else if c = 3 then 25 else if c = 4 then 26 else if c = 5 then 27 else 28
theorem begins_calls (w : World) : Calls Tryd.prog 13 #[] w fun e w' => e = .returned (.agg #[.func (.func 21) #[] #[], .func (.func 22) #[] #[], .func (.func 23) #[] #[], .func (.func 25) #[] #[], .func (.func 26) #[] #[], .func (.func 27) #[] #[], .func (.func 28) #[] #[]]) ∧ Below w.heap.size w w' := by
  go_enter Tryd.func13, Tryd.ntmps13
  go_wp2
  exact bodyPost_ret (v := .agg #[.func (.func 21) #[] #[], .func (.func 22) #[] #[], .func (.func 23) #[] #[], .func (.func 25) #[] #[], .func (.func 26) #[] #[], .func (.func 27) #[] #[], .func (.func 28) #[] #[]]) (by simp [results, Tryd.results13, go_sem]) rfl ⟨rfl, (Below.refl _ _).alloc (Nat.le_refl _) _⟩
theorem heap_lt {w : World} {i : Nat} {o : Obj} (h : w.heap[i]? = some o) : i < w.heap.size := (Array.getElem?_eq_some_iff.1 h).1
theorem disp0_calls (t : ByteArray) (w : World) : Calls Tryd.prog 21 #[.string t] w fun e w' => e = .returned (.agg #[.int .i64 0, .int .i64 0, .int .i64 40]) ∧ Below w.heap.size w w' := by
  go_enter Tryd.func21, Tryd.ntmps21
  go_wp2
  exact bodyPost_ret (v := .agg #[.int .i64 0, .int .i64 0, .int .i64 40]) (by simp [results, Tryd.results21, go_sem]) rfl ⟨rfl, (Below.refl _ _).alloc (Nat.le_refl _) _⟩
theorem disp1_calls (t : ByteArray) (w : World) : Calls Tryd.prog 22 #[.string t] w fun e w' => e = .returned (.agg #[.int .i64 0, .int .i64 1, .int .i64 0]) ∧ Below w.heap.size w w' := by
  go_enter Tryd.func22, Tryd.ntmps22
  go_wp2
  exact bodyPost_ret (v := .agg #[.int .i64 0, .int .i64 1, .int .i64 0]) (by simp [results, Tryd.results22, go_sem]) rfl ⟨rfl, (Below.refl _ _).alloc (Nat.le_refl _) _⟩
theorem disp5_calls (t : ByteArray) (w : World) : Calls Tryd.prog 27 #[.string t] w fun e w' => e = .returned (.agg #[.int .i64 4, .int .i64 1, .int .i64 0]) ∧ Below w.heap.size w w' := by
  go_enter Tryd.func27, Tryd.ntmps27
  go_wp2
  exact bodyPost_ret (v := .agg #[.int .i64 4, .int .i64 1, .int .i64 0]) (by simp [results, Tryd.results27, go_sem]) rfl ⟨rfl, (Below.refl _ _).alloc (Nat.le_refl _) _⟩
theorem disp2_calls (k : Nat) (t : ByteArray) (r : Int) (w : World) (h : scan_row.f k t = some r) : Calls Tryd.prog 23 #[.string t] w fun e w' => e = .returned (.agg #[.int .i64 1, .int .i64 r, .int .i64 0]) ∧ Below w.heap.size w w' := by
  have A := Aside0.mk h
  clear h
  go_enter Tryd.func23, Tryd.ntmps23
  go_wp2_with (go_at_call 24; refine (scan_row.calls k t r _ A.out).mono ?_; rintro e w' ⟨rfl, ⟨nd, rfl⟩⟩)
  exact bodyPost_ret (v := .agg #[.int .i64 1, .int .i64 r, .int .i64 0]) (by simp [results, Tryd.results23, go_sem]) rfl ⟨rfl, (((pw_below_drewN ((Below.refl _ _).alloc (Nat.le_refl _) _) nd).setCell (by simp) _).setCell (by simp) _).setCell (by simp) _⟩
def scan_disp (k : Nat) (c : Int) (t : ByteArray) : Option (Int × Int × Int) := if c = 0 then some (0, 0, 40) else if c = 1 then some (0, 1, 0) else if c = 2 then (scan_row.f k t).bind fun n => some (1, n, 0) else if c = 3 then scan_number.f k t else if c = 4 then scan_str.f k t else if c = 5 then some (4, 1, 0) else if c = 6 then scan_comment.f t else none
theorem disp_calls (k : Nat) (c : Int) (t : ByteArray) (r1 r2 r3 : Int) (h : scan_disp k c t = some (r1, r2, r3)) : 0 ≤ c ∧ c < 7 ∧ ∀ w, LaidW w → Calls Tryd.prog (fnOf c) #[.string t] w fun e w' => e = .returned (.agg #[.int .i64 r1, .int .i64 r2, .int .i64 r3]) ∧ Below w.heap.size w w' := by
  unfold scan_disp at h
  by_cases c0 : c = 0
  · subst c0
    simp only [if_true, Option.some.injEq, Prod.mk.injEq] at h
    obtain ⟨rfl, rfl, rfl⟩ := h
    exact ⟨by omega, by omega, fun w _ => disp0_calls t w⟩
  rw [if_neg c0] at h
  by_cases c1 : c = 1
  · subst c1
    simp only [if_true, Option.some.injEq, Prod.mk.injEq] at h
    obtain ⟨rfl, rfl, rfl⟩ := h
    exact ⟨by omega, by omega, fun w _ => disp1_calls t w⟩
  rw [if_neg c1] at h
  by_cases c2 : c = 2
  · subst c2
    rw [if_pos rfl] at h
    obtain ⟨n, hn, h⟩ := Option.bind_eq_some_iff.mp h
    simp only [Option.some.injEq, Prod.mk.injEq] at h
    obtain ⟨rfl, rfl, rfl⟩ := h
    exact ⟨by omega, by omega, fun w _ => disp2_calls k t n w hn⟩
  rw [if_neg c2] at h
  by_cases c3 : c = 3
  · subst c3
    rw [if_pos rfl] at h
    exact ⟨by omega, by omega, fun w _ => scan_number.calls k t r1 r2 r3 w h⟩
  rw [if_neg c3] at h
  by_cases c4 : c = 4
  · subst c4
    rw [if_pos rfl] at h
    exact ⟨by omega, by omega, fun w _ => scan_str.calls k t r1 r2 r3 w h⟩
  rw [if_neg c4] at h
  by_cases c5 : c = 5
  · subst c5
    simp only [if_true, Option.some.injEq, Prod.mk.injEq] at h
    obtain ⟨rfl, rfl, rfl⟩ := h
    exact ⟨by omega, by omega, fun w _ => disp5_calls t w⟩
  rw [if_neg c5] at h
  by_cases c6 : c = 6
  · subst c6
    rw [if_pos rfl] at h
    exact ⟨by omega, by omega, fun w hL => scan_comment.calls t r1 r2 r3 w h hL⟩
  · rw [if_neg c6] at h
    cases h
theorem enter_of {f : FuncId} {fn : Func} {c : Code} (hf : Tryd.prog.funcs[f]? = some fn) (hname : (fn.name == "runtime.NumGoroutine") = false) (hb : fn.body = some c) (args : Array Value) (w : World) :
    Sem.run Tryd.prog (callFunc f args) w = .ok (.enter f args) w := by
  have h1 : fn.name ≠ "runtime.NumGoroutine" := by simpa using hname
  simp [callFunc, hf, h1, hb]
theorem enter_disp (cn : Nat) (h : cn < 7) (args : Array Value) (w : World) : Sem.run Tryd.prog (callFunc (fnOf (cn : Int)) args) w = .ok (.enter (fnOf (cn : Int)) args) w := by
  match cn, h with
  | 0, _ => exact enter_of Tryd.func21 (by kernel_rfl) rfl args w
  | 1, _ => exact enter_of Tryd.func22 (by kernel_rfl) rfl args w
  | 2, _ => exact enter_of Tryd.func23 (by kernel_rfl) rfl args w
  | 3, _ => exact enter_of Tryd.func25 (by kernel_rfl) rfl args w
  | 4, _ => exact enter_of Tryd.func26 (by kernel_rfl) rfl args w
  | 5, _ => exact enter_of Tryd.func27 (by kernel_rfl) rfl args w
  | 6, _ => exact enter_of Tryd.func28 (by kernel_rfl) rfl args w
theorem boxed_at {W0 w5 : World} {a b c : Value} (g : Nat) (hb : Below (W0.alloc (.cells #[a, b, c] 46)).heap.size (W0.alloc (.cells #[a, b, c] 46)) w5) (hg : g = W0.heap.size) :
    w5.cell? ⟨g, 0, none⟩ = some a ∧ w5.cell? ⟨g, 1, none⟩ = some b ∧ w5.cell? ⟨g, 2, none⟩ = some c ∧ w5.frozen? ⟨g, 0, none⟩ = false ∧ w5.frozen? ⟨g, 1, none⟩ = false ∧ w5.frozen? ⟨g, 2, none⟩ = false := by
  subst hg
  exact ⟨(hb.cell (p := ⟨W0.heap.size, 0, none⟩) (by simp)).trans (by simp), (hb.cell (p := ⟨W0.heap.size, 1, none⟩) (by simp)).trans (by simp), (hb.cell (p := ⟨W0.heap.size, 2, none⟩) (by simp)).trans (by simp), (hb.frozen (p := ⟨W0.heap.size, 0, none⟩) (by simp)).trans (by simp), (hb.frozen (p := ⟨W0.heap.size, 1, none⟩) (by simp)).trans (by simp), (hb.frozen (p := ⟨W0.heap.size, 2, none⟩) (by simp)).trans (by simp)⟩
theorem boxed_n {W0 w5 : World} {a b c : Value} {n : Nat} (g : Nat) (hb : Below ((W0.alloc (.cells #[a, b, c] 46)).drewN n).heap.size ((W0.alloc (.cells #[a, b, c] 46)).drewN n) w5) (hg : g = W0.heap.size) :
    w5.cell? ⟨g, 0, none⟩ = some a ∧ w5.cell? ⟨g, 1, none⟩ = some b ∧ w5.cell? ⟨g, 2, none⟩ = some c ∧ w5.frozen? ⟨g, 0, none⟩ = false ∧ w5.frozen? ⟨g, 1, none⟩ = false ∧ w5.frozen? ⟨g, 2, none⟩ = false := by
  subst hg
  exact ⟨(hb.cell (p := ⟨W0.heap.size, 0, none⟩) (by simp)).trans (by simp), (hb.cell (p := ⟨W0.heap.size, 1, none⟩) (by simp)).trans (by simp), (hb.cell (p := ⟨W0.heap.size, 2, none⟩) (by simp)).trans (by simp), (hb.frozen (p := ⟨W0.heap.size, 0, none⟩) (by simp)).trans (by simp), (hb.frozen (p := ⟨W0.heap.size, 1, none⟩) (by simp)).trans (by simp), (hb.frozen (p := ⟨W0.heap.size, 2, none⟩) (by simp)).trans (by simp)⟩
theorem set3 {w5 : World} {g : Nat} {a b c : Value} (f0 : w5.cell? ⟨g, 0, none⟩ = some a) (f1 : w5.cell? ⟨g, 1, none⟩ = some b) (f2 : w5.cell? ⟨g, 2, none⟩ = some c) (x y z : Value) :
    (((w5.setCell ⟨g, 0, none⟩ x).setCell ⟨g, 1, none⟩ y).setCell ⟨g, 2, none⟩ z).cell? ⟨g, 0, none⟩ = some x ∧ (((w5.setCell ⟨g, 0, none⟩ x).setCell ⟨g, 1, none⟩ y).setCell ⟨g, 2, none⟩ z).cell? ⟨g, 1, none⟩ = some y ∧ (((w5.setCell ⟨g, 0, none⟩ x).setCell ⟨g, 1, none⟩ y).setCell ⟨g, 2, none⟩ z).cell? ⟨g, 2, none⟩ = some z := by
  refine ⟨?_, ?_, ?_⟩ <;> simp [go_sem, f0, f1, f2]
theorem ends_after {w wr W w5 : World} {g2 : Nat} {v6 : Value} {l : List S31} {o : Obj} (p1 p2 p3 : Int) (hg2 : w.heap.size ≤ g2) (HG : wr.heap[g2]? = some o) (HO : Kd.R k31 31 wr w.heap.size (fun b => b ≠ g2) v6 l) (HB : Below w.heap.size w wr)
    (hW : Below wr.heap.size wr W) (hb : Below W.heap.size W w5) :
    (w.heap.size ≤ w5.heap.size ∧ w5.heap.size ≠ g2) ∧ ((w5.alloc (.cells #[.int .i64 p1, .int .i64 p2, .int .i64 p3] 46)).cell? ⟨w5.heap.size, 0, none⟩ = some (.int .i64 p1) ∧ (w5.alloc (.cells #[.int .i64 p1, .int .i64 p2, .int .i64 p3] 46)).cell? ⟨w5.heap.size, 1, none⟩ = some (.int .i64 p2) ∧ (w5.alloc (.cells #[.int .i64 p1, .int .i64 p2, .int .i64 p3] 46)).cell? ⟨w5.heap.size, 2, none⟩ = some (.int .i64 p3)) ∧
      Kd.R k31 31 (w5.alloc (.cells #[.int .i64 p1, .int .i64 p2, .int .i64 p3] 46)) w.heap.size (fun b => b ≠ g2 ∧ b ≠ w5.heap.size) v6 l ∧ (w5.alloc (.cells #[.int .i64 p1, .int .i64 p2, .int .i64 p3] 46)).heap[g2]? = some o ∧ Below w.heap.size w (w5.alloc (.cells #[.int .i64 p1, .int .i64 p2, .int .i64 p3] 46)) := by
  have hlt := heap_lt HG
  have h5 : Below wr.heap.size wr w5 := below_then hW hW.size hb
  have hs := h5.size
  have hB5 : Below w.heap.size w w5 := below_then HB HB.size h5
  have hG5 : w5.heap[g2]? = some o := (h5.block g2 hlt).trans HG
  refine ⟨⟨hB5.size, by omega⟩, ⟨by simp, by simp, by simp⟩, Kd.R_alloc (Kd.R_mono (Kd.R_bound (Kd.R_below HO h5)) (fun k hk => ⟨hk.1, Nat.ne_of_lt hk.2.2.1⟩)) _, ?_, below_alloc hB5 _⟩
  rw [heap_alloc_old _ _ (by omega)]
  exact hG5
theorem ends_ahead {w wr W w5 : World} {g2 : Nat} {v6 : Value} {l : List S31} {o : Obj} (p1 p2 p3 : Int) (hg2 : w.heap.size ≤ g2) (HG : wr.heap[g2]? = some o) (HO : Kd.R k31 31 wr w.heap.size (fun b => b ≠ g2) v6 l) (HB : Below w.heap.size w wr)
    (hW : Below wr.heap.size wr W) (hb : Below W.heap.size W w5) {a b c : Value} (f0 : w5.cell? ⟨wr.heap.size, 0, none⟩ = some a) (f1 : w5.cell? ⟨wr.heap.size, 1, none⟩ = some b) (f2 : w5.cell? ⟨wr.heap.size, 2, none⟩ = some c) :
    (w.heap.size ≤ wr.heap.size ∧ wr.heap.size ≠ g2) ∧ ((((w5.setCell ⟨wr.heap.size, 0, none⟩ (.int .i64 p1)).setCell ⟨wr.heap.size, 1, none⟩ (.int .i64 p2)).setCell ⟨wr.heap.size, 2, none⟩ (.int .i64 p3)).cell? ⟨wr.heap.size, 0, none⟩ = some (.int .i64 p1) ∧ (((w5.setCell ⟨wr.heap.size, 0, none⟩ (.int .i64 p1)).setCell ⟨wr.heap.size, 1, none⟩ (.int .i64 p2)).setCell ⟨wr.heap.size, 2, none⟩ (.int .i64 p3)).cell? ⟨wr.heap.size, 1, none⟩ = some (.int .i64 p2) ∧ (((w5.setCell ⟨wr.heap.size, 0, none⟩ (.int .i64 p1)).setCell ⟨wr.heap.size, 1, none⟩ (.int .i64 p2)).setCell ⟨wr.heap.size, 2, none⟩ (.int .i64 p3)).cell? ⟨wr.heap.size, 2, none⟩ = some (.int .i64 p3)) ∧
      Kd.R k31 31 (((w5.setCell ⟨wr.heap.size, 0, none⟩ (.int .i64 p1)).setCell ⟨wr.heap.size, 1, none⟩ (.int .i64 p2)).setCell ⟨wr.heap.size, 2, none⟩ (.int .i64 p3)) w.heap.size (fun b => b ≠ g2 ∧ b ≠ wr.heap.size) v6 l ∧ (((w5.setCell ⟨wr.heap.size, 0, none⟩ (.int .i64 p1)).setCell ⟨wr.heap.size, 1, none⟩ (.int .i64 p2)).setCell ⟨wr.heap.size, 2, none⟩ (.int .i64 p3)).heap[g2]? = some o ∧ Below w.heap.size w (((w5.setCell ⟨wr.heap.size, 0, none⟩ (.int .i64 p1)).setCell ⟨wr.heap.size, 1, none⟩ (.int .i64 p2)).setCell ⟨wr.heap.size, 2, none⟩ (.int .i64 p3)) := by
  have hlt := heap_lt HG
  have h5 : Below wr.heap.size wr w5 := below_then hW hW.size hb
  have hs := h5.size
  have hB5 : Below w.heap.size w w5 := below_then HB HB.size h5
  have hG5 : w5.heap[g2]? = some o := (h5.block g2 hlt).trans HG
  have hR : Kd.R k31 31 w5 w.heap.size (fun b => b ≠ g2 ∧ b < wr.heap.size) v6 l := Kd.R_below (Kd.R_mono (Kd.R_bound HO) (fun k hk => ⟨hk.1, hk.2.2.1⟩)) h5
  refine ⟨⟨HB.size, by omega⟩, set3 f0 f1 f2 _ _ _, ?_, ?_, ((hB5.setCell HB.size _).setCell HB.size _).setCell HB.size _⟩
  · refine Kd.R_mono (Kd.R_far (Kd.R_far (Kd.R_far hR (fun k hk => Nat.ne_of_lt hk.2) _) (fun k hk => Nat.ne_of_lt hk.2) _) (fun k hk => Nat.ne_of_lt hk.2) _) (fun k hk => ⟨hk.1, Nat.ne_of_lt hk.2⟩)
  · rw [Below.heap_setCell _ _ _ _ (show g2 ≠ wr.heap.size by omega), Below.heap_setCell _ _ _ _ (show g2 ≠ wr.heap.size by omega), Below.heap_setCell _ _ _ _ (show g2 ≠ wr.heap.size by omega)]
    exact hG5
theorem grown_cell {W w9 : World} {row : Option Nat} (hg : W.grownBy w9 row) {b : Nat} (hb : b < W.heap.size) (hne : some b ≠ row) (j : Nat) : w9.cell? ⟨b, j, none⟩ = W.cell? ⟨b, j, none⟩ := by
  unfold World.cell?
  rw [hg.block b hb hne]
theorem cells_does {w : World} {g : Nat} (h : w.heap[g]? = some (.cells #[.func (.func 21) #[] #[], .func (.func 22) #[] #[], .func (.func 23) #[] #[], .func (.func 25) #[] #[], .func (.func 26) #[] #[], .func (.func 27) #[] #[], .func (.func 28) #[] #[]] 43 (0, 0))) :
    ∀ i : Nat, i < 7 → w.cell? ⟨g, i, none⟩ = some (.func (.func (fnOf i)) #[] #[]) := by
  intro i hi
  unfold World.cell?
  rw [h]
  match i, hi with
  | 0, _ => rfl
  | 1, _ => rfl
  | 2, _ => rfl
  | 3, _ => rfl
  | 4, _ => rfl
  | 5, _ => rfl
  | 6, _ => rfl
def scan_Tokens.l0 : Nat → ByteArray → List S31 → Int → Option (List S31 × Int × Int)
  | 0, _, _, _ => none
  | k + 1, s, l, at_ => if at_ = (s.size : Int) then (if l.length < 4398046511104 then some (l ++ [(⟨5, at_, (⟨#[]⟩ : ByteArray)⟩ : S31)], 0, 0) else none) else (if 0 ≤ at_ then (if at_ < (s.size : Int) then ((scan_class.f k (bt s at_)).bind fun c => ((scan_disp k c (s.extract at_.toNat s.size)).bind fun p =>
      (if ¬ ((p.1 = 0 ∧ p.2.2 = 0) ∨ p.2.2 = 43) ∧ (l.length : Int) ≥ 16383 then some (([] : List S31), at_, 45)
      else if p.2.2 ≠ 0 then some (([] : List S31), at_, p.2.2)
      else if p.1 = 0 then scan_Tokens.l0 k s l (wrap64 (at_ + p.2.1))
      else if at_ ≤ wrap64 (at_ + p.2.1) then (if wrap64 (at_ + p.2.1) ≤ (s.size : Int) then (if l.length < 4398046511104 then scan_Tokens.l0 k s (l ++ [(⟨p.1, at_, s.extract at_.toNat (wrap64 (at_ + p.2.1)).toNat⟩ : S31)]) (wrap64 (at_ + p.2.1)) else none) else none) else none))) else none) else none)
def scan_Tokens.f (k : Nat) (a0 : ByteArray) : Option (List S31 × Int × Int) := if (a0.size : Int) > 65536 then some (([] : List S31), 0, 2) else ((wire_Utf8.f k a0).bind fun t => if t ≥ 0 then some (([] : List S31), t, 44) else scan_Tokens.l0 k a0 ([] : List S31) 0)
set_option maxHeartbeats 8000000 in
set_option maxRecDepth 100000 in
theorem scan_Tokens.calls (k : Nat) (a0 : ByteArray) (r1 : List S31) (r2 : Int) (r3 : Int) (w : World) (h : scan_Tokens.f k a0 = some (r1, r2, r3)) (hL : LaidW w) :
    Calls Tryd.prog 6 #[.string a0] w fun e w' => ∃ v0_ : Value, e = .returned (.tuple #[v0_, .int .i64 r2, .int .i64 r3]) ∧ Kd.R k31 31 w' w.heap.size (fun _ => True) v0_ r1 ∧ Below w.heap.size w w' := by
  have HL := Aside0.mk hL
  clear hL
  have HB := Aside0.mk (Below.refl w.heap.size w)
  unfold scan_Tokens.f at h
  by_cases c2 : (a0.size : Int) > 65536
  · rw [if_pos c2] at h
    have c2b0 : decide (65536 < (a0.size : Int)) = true := decide_eq_true c2
    have c2b1 : decide (65536 < a0.size) = true := decide_eq_true (by omega)
    clear c2
    simp only [Option.some.injEq, Prod.mk.injEq] at h
    obtain ⟨rfl, rfl, rfl⟩ := h
    go_enter Tryd.func6, Tryd.ntmps6
    go_wp2
    go_step3
    go_wp2
    rw [Exit.noGoto_ret]
    go_ret3
    exact ⟨_, rfl, Kd.R_nil _ _ _ _ _, HB.out⟩
  · rw [if_neg c2] at h
    have c2b0 : decide (65536 < (a0.size : Int)) = false := decide_eq_false c2
    have c2b1 : decide (65536 < a0.size) = false := decide_eq_false (by omega)
    have c2s := Aside0.mk (show a0.size ≤ 65536 by omega)
    clear c2
    replace h := Option.bind_eq_some_iff.mp h
    obtain ⟨t, A30, h⟩ := h
    have A3 := Aside0.mk A30
    clear A30
    by_cases c4 : t ≥ 0
    · rw [if_pos c4] at h
      have c4b0 : decide (0 ≤ t) = true := decide_eq_true c4
      clear c4
      simp only [Option.some.injEq, Prod.mk.injEq] at h
      obtain ⟨rfl, rfl, rfl⟩ := h
      go_enter Tryd.func6, Tryd.ntmps6
      go_wp2
      go_step3
      go_wp2_with (go_at_call 12; refine (wire_Utf8.calls k a0 t _ A3.out HL.out).mono ?_; rintro e w1 ⟨rfl, hb⟩; have n0_ := Aside0.mk hb; clear HB; have HB := n0_; clear n0_ hb)
      rw [Exit.noGoto_ret]
      go_ret3
      exact ⟨_, rfl, Kd.R_nil _ _ _ _ _, HB.out⟩
    · rw [if_neg c4] at h
      have c4b0 : decide (0 ≤ t) = false := decide_eq_false c4
      clear c4
      have H' := Aside0.mk h
      clear h
      go_enter Tryd.func6, Tryd.ntmps6
      go_wp2
      go_step3
      go_wp2_with (first | (go_at_call 12; refine (wire_Utf8.calls k a0 t _ A3.out HL.out).mono ?_; rintro e w1 ⟨rfl, hb⟩; have n0_ := Aside0.mk hb; clear HB; have HB := n0_; clear n0_ hb) | (go_at_call 13; refine (begins_calls _).mono ?_; rintro e w2 ⟨rfl, hb⟩; have n0_ := Aside0.mk (below_then HB.out HB.out.size hb); have HS := Aside0.mk (Nat.le_trans HB.out.size hb.size); clear HB hb; have HB := n0_; clear n0_))
      have hb0 := HB.out
      have hs0 := HS.out
      go_step3
      go_wp2
      go_loopg [6, 8] k (fun kq v6 v8 w' => ∃ (l : List S31) (x8 : Int), v8 = .int .i64 x8 ∧ Aside0 (scan_Tokens.l0 kq a0 l x8 = some (r1, r2, r3)) ∧ Aside0 (kq ≤ k) ∧ Aside0 (Kd.R k31 31 w' w.heap.size (fun b => b ≠ w2.heap.size) v6 l) ∧ Aside0 (w'.heap[w2.heap.size]? = some (.cells #[.func (.func 21) #[] #[], .func (.func 22) #[] #[], .func (.func 23) #[] #[], .func (.func 25) #[] #[], .func (.func 26) #[] #[], .func (.func 27) #[] #[], .func (.func 28) #[] #[]] 43 (0, 0))) ∧ Aside0 (Below w.heap.size w w'))
      case atStart => exact ⟨[], 0, rfl, H', ⟨Nat.le_refl _⟩, ⟨Kd.R_nil _ _ _ _ _⟩, ⟨heap_alloc_new _ _⟩, ⟨below_alloc hb0 _⟩⟩
      case round =>
        clear H' HB hb0
        obtain ⟨l, x8, rfl, HA, HK1, HO, HG, HB⟩ := hrel
        cases gk with
        | zero => exact absurd HA.out (by simp [scan_Tokens.l0])
        | succ k1 =>
          have H := HA.out
          clear HA
          simp only [scan_Tokens.l0] at H
          by_cases c5 : x8 = (a0.size : Int)
          · rw [if_pos c5] at H
            have c5b0 : (x8 == (a0.size : Int)) = true := beq_iff_eq.mpr c5
            clear c5
            by_cases c6 : l.length < 4398046511104
            · rw [if_pos c6] at H
              have LM := Aside0.mk c6
              clear c6
              simp only [Option.some.injEq, Prod.mk.injEq] at H
              obtain ⟨rfl, rfl, rfl⟩ := H
              have hlt := Aside0.mk (heap_lt HG.out)
              go_wp2_with (first | ((with_reducible refine gate_builtin (b := .append) (xs := #[.tmp 89, .tmp 92]) rfl ?_); at_builtin; refine Kd.R_append k31 (w0 := w) w.heap.size rfl (.tmp 89) (.tmp 92) 25 31 (.agg #[(.int .i64 0), (.int .i64 0), (.string ⟨#[]⟩)]) 32 rfl Tryd.underlying25 infoTok rfl (by decide) (by omega) u6 l (⟨5, x8, (⟨#[]⟩ : ByteArray)⟩ : S31) [.int .i64 5, .int .i64 x8, .string (⟨#[]⟩ : ByteArray)] (fun b => b ≠ w2.heap.size) (fun _ => False) rfl rfl ?aP (fun _ hk => hk.elim) ?aF ?aO ?aB ?aS ?aL ?_; (case aP => exact k31_mkM _ _ _ (⟨5, x8, (⟨#[]⟩ : ByteArray)⟩ : S31)); (case aB => exact (by repeat (first | (with_reducible first | exact HB.out | apply below_alloc | apply pw_below_drewN | apply below_drew1) | exact HB.out))); (case aF => exact (fun b hb => Nat.ne_of_gt (Nat.lt_of_lt_of_le hlt.out hb))); (case aO => exact (by (with_reducible repeat (first | apply Kd.R_alloc | apply Kd.R_drewN | apply Kd.R_drew)); exact HO.out)); (case aS => exact (below_size (by repeat (first | (with_reducible first | exact HB.out | apply below_alloc | apply pw_below_drewN | apply below_drew1) | exact HB.out)))); (case aL => have := LM.out; omega); intro v148 w9 ho hb hg hat; have n0_ := Aside0.mk (hb); have n1_ := Aside0.mk (ho); clear HB; clear HO; have HB := n0_; have HO := n1_; clear n0_ n1_; clear ho hb hg hat))
              rw [Exit.noGoto_ret]
              go_ret3
              exact ⟨_, rfl, Kd.R_mono HO.out (fun _ _ => trivial), HB.out⟩
            · rw [if_neg c6] at H
              cases H
          · rw [if_neg c5] at H
            have c5b0 : (x8 == (a0.size : Int)) = false := beq_eq_false_iff_ne.mpr c5
            clear c5
            by_cases c6 : 0 ≤ x8
            · rw [if_pos c6] at H
              by_cases c7 : x8 < (a0.size : Int)
              · rw [if_pos c7] at H
                have hx := bt_at a0 x8
                have p4 := eq_true c6
                have q4 := eq_true c7
                have p4b : decide (0 ≤ x8) = true := decide_eq_true c6
                have q4b : decide (x8 ≤ (a0.size : Int)) = true := decide_eq_true (by omega)
                have q4c := eq_true (show x8 ≤ (a0.size : Int) by omega)
                replace H := Option.bind_eq_some_iff.mp H
                obtain ⟨c, A8, H⟩ := H
                replace H := Option.bind_eq_some_iff.mp H
                obtain ⟨⟨p1, p2, p3⟩, A9, H⟩ := H
                replace A8 := Aside0.mk A8
                replace A9 := Aside0.mk A9
                replace H := Aside0.mk H
                go_upto_region 10 with (fail)
                go_cut [9] (fun v9 wc => ∃ g : Nat, v9 = .pointer (some ⟨g, 0, none⟩) ∧ Aside0 (w.heap.size ≤ g ∧ g ≠ w2.heap.size) ∧ Aside0 (wc.cell? ⟨g, 0, none⟩ = some (.int .i64 p1) ∧ wc.cell? ⟨g, 1, none⟩ = some (.int .i64 p2) ∧ wc.cell? ⟨g, 2, none⟩ = some (.int .i64 p3)) ∧ Aside0 (Kd.R k31 31 wc w.heap.size (fun b => b ≠ w2.heap.size ∧ b ≠ g) u6 l) ∧ Aside0 (wc.heap[w2.heap.size]? = some (.cells #[.func (.func 21) #[] #[], .func (.func 22) #[] #[], .func (.func 23) #[] #[], .func (.func 25) #[] #[], .func (.func 26) #[] #[], .func (.func 27) #[] #[], .func (.func 28) #[] #[]] 43 (0, 0))) ∧ Aside0 (Below w.heap.size w wc))
                case first =>
                  obtain ⟨hc0, hc7, hd⟩ := disp_calls k1 c _ p1 p2 p3 A9.out
                  replace hd := Aside0.mk hd
                  have HLr := Aside0.mk (HL.out.below HB.out)
                  have hgl := heap_lt HG.out
                  have hcell := cells_does HG.out
                  obtain ⟨cn, rfl⟩ := Int.eq_ofNat_of_zero_le hc0
                  have hcn : cn < 7 := by omega
                  have hcn1 := eq_true hc0
                  have hcn2 := eq_true hc7
                  have hcn3 := eq_true hcn
                  have hcn4 : decide ((cn : Int) < 7) = true := decide_eq_true hc7
                  have hc2 : wr.cell? ⟨w2.heap.size, cn, none⟩ = some (.func (.func (fnOf cn)) #[] #[]) := hcell cn hcn
                  have hc2a : ∀ o, (wr.alloc o).cell? ⟨w2.heap.size, cn, none⟩ = some (.func (.func (fnOf cn)) #[] #[]) := fun o => (World.cell?_alloc_lt (w := wr) (o := o) (a := ⟨w2.heap.size, cn, none⟩) hgl).trans hc2
                  have hc2b : ∀ n o, ((wr.drewN n).alloc o).cell? ⟨w2.heap.size, cn, none⟩ = some (.func (.func (fnOf cn)) #[] #[]) := fun n o => (World.cell?_alloc_lt (w := wr.drewN n) (o := o) (a := ⟨w2.heap.size, cn, none⟩) hgl).trans hc2
                  have hent := enter_disp cn hcn
                  clear hcell
                  go_region_with (first | (go_at_call 14; refine (scan_class.calls k1 (bt a0 x8) (cn : Int) _ A8.out).mono ?_; rintro e w' ⟨rfl, ⟨nd, rfl⟩⟩) | (refine (hd.out _ (LaidW.below HLr.out (by repeat (first | exact Below.refl _ _ | apply below_alloc | apply pw_below_drewN | apply below_drew1)))).mono ?_; rintro e w5 ⟨rfl, hb⟩; have hz := hb.size; first | (have F := boxed_at wr.heap.size hb rfl; obtain ⟨f0, f1, f2, g0, g1, g2⟩ := F) | (have F := boxed_n wr.heap.size hb rfl; obtain ⟨f0, f1, f2, g0, g1, g2⟩ := F) | skip))
                  all_goals go_wp2
                  all_goals go_meet
                  all_goals first | (have E := ends_after p1 p2 p3 hs0 HG.out HO.out HB.out (by repeat (first | exact Below.refl _ _ | apply below_alloc | apply pw_below_drewN | apply below_drew1)) hb; exact ⟨_, rfl, ⟨E.1⟩, ⟨E.2.1⟩, ⟨E.2.2.1⟩, ⟨E.2.2.2.1⟩, ⟨E.2.2.2.2⟩⟩) | (have E := ends_ahead p1 p2 p3 hs0 HG.out HO.out HB.out (by repeat (first | exact Below.refl _ _ | apply below_alloc | apply pw_below_drewN | apply below_drew1)) hb f0 f1 f2; exact ⟨_, rfl, ⟨E.1⟩, ⟨E.2.1⟩, ⟨E.2.2.1⟩, ⟨E.2.2.2.1⟩, ⟨E.2.2.2.2⟩⟩)
                case rest =>
                  clear HO HG HB
                  obtain ⟨g, rfl, HGg, HC, HO, HG, HB⟩ := hcut
                  obtain ⟨hc1, hc2, hc3⟩ := HC.out
                  replace H := H.out
                  dsimp only at H
                  obtain ⟨Ao, co, eo⟩ := Kd.R_slice HO.out
                  subst eo
                  clear HC A8 A9 q4 q4b q4c hx c7
                  by_cases e3 : p3 = 0
                  · have b3 : (p3 == 0) = true := beq_iff_eq.mpr e3
                    have b3n : (p3 != 0) = false := bne_eq_false_iff_eq.mpr e3
                    have b43 : (p3 == 43) = false := beq_eq_false_iff_ne.mpr (by omega)
                    by_cases e1 : p1 = 0
                    · have b1 : (p1 == 0) = true := beq_iff_eq.mpr e1
                      rw [if_neg (by omega), if_neg (by omega), if_pos e1] at H
                      have H' := Aside0.mk H
                      clear H e1 e3
                      go_wp2
                      go_roundg k1
                      case measure => have := HK1.out; omega
                      case rel => exact ⟨l, _, rfl, H', ⟨by have := HK1.out; omega⟩, ⟨Kd.R_mono HO.out (fun _ h => h.1)⟩, HG, HB⟩
                    · have b1 : (p1 == 0) = false := beq_eq_false_iff_ne.mpr e1
                      by_cases eL : (l.length : Int) ≥ 16383
                      · have bL : decide ((16383 : Int) ≤ (l.length : Int)) = true := decide_eq_true eL
                        have bL2 : decide (16383 ≤ l.length) = true := decide_eq_true (by omega)
                        rw [if_pos ⟨by omega, eL⟩] at H
                        simp only [Option.some.injEq, Prod.mk.injEq] at H
                        obtain ⟨rfl, rfl, rfl⟩ := H
                        clear e1 e3 eL
                        go_wp2
                        rw [Exit.noGoto_ret]
                        go_ret3
                        exact ⟨_, rfl, Kd.R_nil _ _ _ _ _, HB.out⟩
                      · have bL : decide ((16383 : Int) ≤ (l.length : Int)) = false := decide_eq_false eL
                        have bL2 : decide (16383 ≤ l.length) = false := decide_eq_false (by omega)
                        rw [if_neg (fun h => eL h.2), if_neg (by omega), if_neg e1] at H
                        by_cases d1 : x8 ≤ wrap64 (x8 + p2)
                        · rw [if_pos d1] at H
                          by_cases d2 : wrap64 (x8 + p2) ≤ (a0.size : Int)
                          · rw [if_pos d2] at H
                            by_cases d3 : l.length < 4398046511104
                            · rw [if_pos d3] at H
                              have LM := Aside0.mk d3
                              have H' := Aside0.mk H
                              have d1a := eq_true d1
                              have d2a := eq_true d2
                              have d1b : decide (x8 ≤ wrap64 (x8 + p2)) = true := decide_eq_true d1
                              have d2b : decide (wrap64 (x8 + p2) ≤ (a0.size : Int)) = true := decide_eq_true d2
                              clear H e1 e3 eL d1 d2 d3
                              go_wp2
                              have hsum : IntKind.i64.wrap (x8 + p2) = wrap64 (x8 + p2) := i64_w _
                              have hgl2 := heap_lt HG.out
                              have hgl3 : g < wc.heap.size := World.block_lt_of_cell? wc ⟨g, 0, none⟩ hc1
                              have hfr := Aside0.mk (show ∀ k, wc.drew.heap.size ≤ k → (k ≠ w2.heap.size ∧ k ≠ g) from fun k hk => ⟨Nat.ne_of_gt (Nat.lt_of_lt_of_le hgl2 hk), Nat.ne_of_gt (Nat.lt_of_lt_of_le hgl3 hk)⟩)
                              have hOd := Aside0.mk (Kd.R_drew HO.out)
                              have hBd := Aside0.mk (below_drew1 HB.out)
                              have hLd := Aside0.mk (show (l.length + 1) * 32 ≤ 140737488355328 by have := LM.out; omega)
                              have hown := Aside0.mk HO.out.1
                              go_region_law ((refine Kd.R_append_step k31 (w0 := w) (W := wc.drew) w.heap.size rfl (.tmp 71) (.tmp 83) 25 31 (.agg #[(.int .i64 0), (.int .i64 0), (.string ⟨#[]⟩)]) 32 rfl Tryd.underlying25 infoTok rfl (by decide) (by decide) (.slice Ao l.length co) l (⟨p1, x8, a0.extract x8.toNat (wrap64 (x8 + p2)).toNat⟩ : S31) [.int .i64 p1, .int .i64 x8, .string (a0.extract x8.toNat (wrap64 (x8 + p2)).toNat)] (fun b => b ≠ w2.heap.size ∧ b ≠ g) (fun _ => False) (by simp [Act.eval, Act.put]) (by simp [Act.eval, Act.put]) (k31_mkM _ _ _ (⟨p1, x8, a0.extract x8.toNat (wrap64 (x8 + p2)).toNat⟩ : S31)) (fun _ hk => hk.elim) hfr.out hOd.out hBd.out hBd.out.size hLd.out ?_; intro v148 w9 ho hb hg hat; have HO9 := Aside0.mk ho; have HB9 := Aside0.mk hb; have hn2 := Aside0.mk (show some w2.heap.size ≠ (Value.slice Ao l.length co).ownBlock from fun h => (hown.out _ h.symm).1 rfl); have hn3 := Aside0.mk (show some g ≠ (Value.slice Ao l.length co).ownBlock from fun h => (hown.out _ h.symm).2 rfl); have HG9 := Aside0.mk ((hg.block _ hgl2 hn2.out).trans HG.out); have hq2 : w9.cell? ⟨g, 1, none⟩ = some (.int .i64 p2) := (grown_cell hg hgl3 hn3.out 1).trans hc2; clear ho hb hg hat))
                              all_goals clear hsum
                              all_goals go_wp2
                              all_goals go_roundg k1
                              all_goals first | (have := HK1.out; omega) | exact ⟨_, _, rfl, H', ⟨by have := HK1.out; omega⟩, ⟨Kd.R_mono HO9.out (fun _ h => h.1)⟩, HG9, HB9⟩
                            · rw [if_neg d3] at H
                              cases H
                          · rw [if_neg d2] at H
                            cases H
                        · rw [if_neg d1] at H
                          cases H
                  · have b3 : (p3 == 0) = false := beq_eq_false_iff_ne.mpr e3
                    have b3n : (p3 != 0) = true := bne_iff_ne.mpr e3
                    by_cases e43 : p3 = 43
                    · have b43 : (p3 == 43) = true := beq_iff_eq.mpr e43
                      rw [if_neg (by omega), if_pos e3] at H
                      simp only [Option.some.injEq, Prod.mk.injEq] at H
                      obtain ⟨rfl, rfl, rfl⟩ := H
                      clear e3 e43
                      by_cases e1 : p1 = 0
                      · have b1 : (p1 == 0) = true := beq_iff_eq.mpr e1
                        clear e1
                        go_wp2
                        go_quiet (fail)
                        go_wp2
                        rw [Exit.noGoto_ret]
                        go_ret3
                        exact ⟨_, rfl, Kd.R_nil _ _ _ _ _, by repeat (first | (with_reducible first | exact HB.out | apply below_alloc | apply pw_below_drewN | apply below_drew1) | exact HB.out)⟩
                      · have b1 : (p1 == 0) = false := beq_eq_false_iff_ne.mpr e1
                        clear e1
                        go_wp2
                        go_quiet (fail)
                        go_wp2
                        rw [Exit.noGoto_ret]
                        go_ret3
                        exact ⟨_, rfl, Kd.R_nil _ _ _ _ _, by repeat (first | (with_reducible first | exact HB.out | apply below_alloc | apply pw_below_drewN | apply below_drew1) | exact HB.out)⟩
                    · have b43 : (p3 == 43) = false := beq_eq_false_iff_ne.mpr e43
                      by_cases eL : (l.length : Int) ≥ 16383
                      · have bL : decide ((16383 : Int) ≤ (l.length : Int)) = true := decide_eq_true eL
                        have bL2 : decide (16383 ≤ l.length) = true := decide_eq_true (by omega)
                        rw [if_pos (by omega)] at H
                        simp only [Option.some.injEq, Prod.mk.injEq] at H
                        obtain ⟨rfl, rfl, rfl⟩ := H
                        by_cases e1 : p1 = 0
                        · have b1 : (p1 == 0) = true := beq_iff_eq.mpr e1
                          clear e1 e3 e43 eL
                          go_wp2
                          rw [Exit.noGoto_ret]
                          go_ret3
                          exact ⟨_, rfl, Kd.R_nil _ _ _ _ _, HB.out⟩
                        · have b1 : (p1 == 0) = false := beq_eq_false_iff_ne.mpr e1
                          clear e1 e3 e43 eL
                          go_wp2
                          rw [Exit.noGoto_ret]
                          go_ret3
                          exact ⟨_, rfl, Kd.R_nil _ _ _ _ _, HB.out⟩
                      · have bL : decide ((16383 : Int) ≤ (l.length : Int)) = false := decide_eq_false eL
                        have bL2 : decide (16383 ≤ l.length) = false := decide_eq_false (by omega)
                        rw [if_neg (fun h => eL h.2), if_pos e3] at H
                        simp only [Option.some.injEq, Prod.mk.injEq] at H
                        obtain ⟨rfl, rfl, rfl⟩ := H
                        by_cases e1 : p1 = 0
                        · have b1 : (p1 == 0) = true := beq_iff_eq.mpr e1
                          clear e1 e3 e43 eL
                          go_wp2
                          go_quiet (fail)
                          go_wp2
                          rw [Exit.noGoto_ret]
                          go_ret3
                          exact ⟨_, rfl, Kd.R_nil _ _ _ _ _, by repeat (first | (with_reducible first | exact HB.out | apply below_alloc | apply pw_below_drewN | apply below_drew1) | exact HB.out)⟩
                        · have b1 : (p1 == 0) = false := beq_eq_false_iff_ne.mpr e1
                          clear e1 e3 e43 eL
                          go_wp2
                          go_quiet (fail)
                          go_wp2
                          rw [Exit.noGoto_ret]
                          go_ret3
                          exact ⟨_, rfl, Kd.R_nil _ _ _ _ _, by repeat (first | (with_reducible first | exact HB.out | apply below_alloc | apply pw_below_drewN | apply below_drew1) | exact HB.out)⟩
              · rw [if_neg c7] at H
                cases H
            · rw [if_neg c6] at H
              cases H
def sigillaw4_SameTokens.l0 : Nat → List (S31) → List (S31) → Int → Option (Bool)
  | 0, _, _, _ => none
  | k + 1, x0, x1, x5 => if x5 < (x0.length : Int) then (if 0 ≤ x5 then (if x5 < (x1.length : Int) then (if (!(((rd_T31 x0 x5).f0) == ((rd_T31 x1 x5).f0)) || (!(((rd_T31 x0 x5).f1) == ((rd_T31 x1 x5).f1)) || (!((((rd_T31 x0 x5).f2).toList) == (((rd_T31 x1 x5).f2).toList))))) = true then (some false) else (sigillaw4_SameTokens.l0 k x0 x1 (wrap64 (x5 + 1)))) else (none)) else (none)) else (some true)
def sigillaw4_SameTokens.f (k : Nat) (l0 : List (S31)) (l1 : List (S31)) : Option (Bool) := if (l0.length : Int) = (l1.length : Int) then (sigillaw4_SameTokens.l0 k l0 l1 0) else (some false)
set_option maxHeartbeats 8000000 in
set_option maxRecDepth 100000 in
theorem sigillaw4_SameTokens.calls (k : Nat) (A0 : Option Addr) (c0 : Nat) (l0 : List (S31)) (A1 : Option Addr) (c1 : Nat) (l1 : List (S31)) (r : Bool) (w : World) (hr0 : Kd.C k31 w A0 l0.length l0) (hc0 : l0.length ≤ c0) (hr1 : Kd.C k31 w A1 l1.length l1) (hc1 : l1.length ≤ c1) (h : sigillaw4_SameTokens.f k l0 l1 = some r) :
    Calls Tryd.prog 7 #[.slice A0 l0.length c0, .slice A1 l1.length c1] w fun e w' => e = .returned (.bool r) ∧ Drawn0 w w' := by
  have hu31 := Tryd.underlying31
  have HR0 := Aside0.mk hr0
  have HC0 := Aside0.mk hc0
  clear hr0 hc0
  have HR1 := Aside0.mk hr1
  have HC1 := Aside0.mk hc1
  clear hr1 hc1
  have H : (if (l0.length : Int) = (l1.length : Int) then (sigillaw4_SameTokens.l0 k l0 l1 0) else (some false)) = some r := h
  clear h
  by_cases c3 : (l0.length : Int) = (l1.length : Int)
  · rw [if_pos c3] at H
    have c3b0 : ((l0.length : Int) == (l1.length : Int)) = true := beq_iff_eq.mpr c3
    have c3b1 : ((l0.length : Int) != (l1.length : Int)) = false := bne_eq_false_iff_eq.mpr c3
    have c3b2 : (l0.length == l1.length) = true := by first | simpa using c3 | (simp at c3 ⊢; omega)
    clear c3
    have H' := Aside0.mk H
    clear H
    go_enter Tryd.func7, Tryd.ntmps7
    go_wp2
    repeat (go_quiet (fail); try go_wp2)
    go_loopg [5] k (fun kq v5 w' => ∃ (x5_1 : Int), v5 = .int .i64 x5_1 ∧ Aside0 (sigillaw4_SameTokens.l0 kq l0 l1 x5_1 = some r) ∧ Aside0 (kq ≤ k) ∧ Drawn0 w w')
    case atStart => exact ⟨(0), (by first | rfl | (simp; done) | (simp [*]; done)), H', ⟨Nat.le_refl _⟩, by repeat (first | exact Drawn0.refl _ | apply Drawn0.step)⟩
    case round =>
      clear H'
      try clear c1
      try clear p2
      try clear c3
      try clear c3b0
      try clear c3b1
      try clear c3b2
      obtain ⟨x5_1, rfl, HA, HK1, ⟨m1, rfl⟩⟩ := hrel
      cases gk with
      | zero => exact absurd HA.out (by simp [sigillaw4_SameTokens.l0])
      | succ k1 =>
        have H := HA.out
        clear HA
        simp only [sigillaw4_SameTokens.l0] at H
        by_cases c4 : x5_1 < (l0.length : Int)
        · rw [if_pos c4] at H
          have c4b0 : decide (x5_1 < (l0.length : Int)) = true := decide_eq_true c4
          clear c4
          by_cases c5 : 0 ≤ x5_1
          · rw [if_pos c5] at H
            have c5b0 : decide (0 ≤ x5_1) = true := decide_eq_true c5
            clear c5
            by_cases c6 : x5_1 < (l1.length : Int)
            · rw [if_pos c6] at H
              have c6b0 : decide (x5_1 < (l1.length : Int)) = true := decide_eq_true c6
              clear c6
              by_cases c7 : (!(((rd_T31 l0 x5_1).f0) == ((rd_T31 l1 x5_1).f0)) || (!(((rd_T31 l0 x5_1).f1) == ((rd_T31 l1 x5_1).f1)) || (!((((rd_T31 l0 x5_1).f2).toList) == (((rd_T31 l1 x5_1).f2).toList))))) = true
              · rw [if_pos c7] at H
                have c7b0 : (!(((rd_T31 l0 x5_1).f0) == ((rd_T31 l1 x5_1).f0)) || (!(((rd_T31 l0 x5_1).f1) == ((rd_T31 l1 x5_1).f1)) || (!((((rd_T31 l0 x5_1).f2).toList) == (((rd_T31 l1 x5_1).f2).toList))))) = true := c7
                clear c7
                obtain rfl := Option.some.inj H
                have p132 : 0 ≤ (x5_1 : Int) := of_decide_eq_true (by first | (with_reducible assumption) | assumption)
                have q132 : x5_1 < (l0.length : Int) := of_decide_eq_true (by first | (with_reducible assumption) | assumption)
                obtain ⟨ad132, e132, hx132_0, hx132_1, hx132_2⟩ := at_T31 HR0.out x5_1 p132 q132
                cases e132
                replace p132 := eq_true p132
                replace q132 := eq_true q132
                have p133 : 0 ≤ (x5_1 : Int) := of_decide_eq_true (by first | (with_reducible assumption) | assumption)
                have q133 : x5_1 < (l1.length : Int) := of_decide_eq_true (by first | (with_reducible assumption) | assumption)
                obtain ⟨ad133, e133, hx133_0, hx133_1, hx133_2⟩ := at_T31 HR1.out x5_1 p133 q133
                cases e133
                replace p133 := eq_true p133
                replace q133 := eq_true q133
                go_wp2
                repeat (go_quiet (fail); try go_wp2)
                go_ret
                exact ⟨by first | rfl | (simp; done) | (simp [*]; done), by repeat (first | exact Drawn0.refl _ | apply Drawn0.step)⟩
              · rw [if_neg c7] at H
                have c7b0 : (!(((rd_T31 l0 x5_1).f0) == ((rd_T31 l1 x5_1).f0)) || (!(((rd_T31 l0 x5_1).f1) == ((rd_T31 l1 x5_1).f1)) || (!((((rd_T31 l0 x5_1).f2).toList) == (((rd_T31 l1 x5_1).f2).toList))))) = false := by simpa using c7
                clear c7
                have H' := Aside0.mk H
                clear H
                have p132 : 0 ≤ (x5_1 : Int) := of_decide_eq_true (by first | (with_reducible assumption) | assumption)
                have q132 : x5_1 < (l0.length : Int) := of_decide_eq_true (by first | (with_reducible assumption) | assumption)
                obtain ⟨ad132, e132, hx132_0, hx132_1, hx132_2⟩ := at_T31 HR0.out x5_1 p132 q132
                cases e132
                replace p132 := eq_true p132
                replace q132 := eq_true q132
                have p133 : 0 ≤ (x5_1 : Int) := of_decide_eq_true (by first | (with_reducible assumption) | assumption)
                have q133 : x5_1 < (l1.length : Int) := of_decide_eq_true (by first | (with_reducible assumption) | assumption)
                obtain ⟨ad133, e133, hx133_0, hx133_1, hx133_2⟩ := at_T31 HR1.out x5_1 p133 q133
                cases e133
                replace p133 := eq_true p133
                replace q133 := eq_true q133
                go_wp2
                repeat (go_quiet (fail); try go_wp2)
                go_roundg k1
                case measure => have := HK1.out; omega
                case rel => exact ⟨(wrap64 (x5_1 + 1)), (by first | rfl | (simp; done) | (simp [*]; done)), H', ⟨by have := HK1.out; omega⟩, by repeat (first | exact Drawn0.refl _ | apply Drawn0.step)⟩
            · rw [if_neg c6] at H
              exact absurd H (by simp)
          · rw [if_neg c5] at H
            exact absurd H (by simp)
        · rw [if_neg c4] at H
          have c4b0 : decide (x5_1 < (l0.length : Int)) = false := decide_eq_false c4
          clear c4
          obtain rfl := Option.some.inj H
          go_wp2
          repeat (go_quiet (fail); try go_wp2)
          go_ret
          exact ⟨by first | rfl | (simp; done) | (simp [*]; done), by repeat (first | exact Drawn0.refl _ | apply Drawn0.step)⟩
  · rw [if_neg c3] at H
    have c3b0 : ((l0.length : Int) == (l1.length : Int)) = false := beq_eq_false_iff_ne.mpr c3
    have c3b1 : ((l0.length : Int) != (l1.length : Int)) = true := bne_iff_ne.mpr c3
    have c3b2 : (l0.length == l1.length) = false := by first | simpa using c3 | (simp at c3 ⊢; omega)
    obtain rfl := Option.some.inj H
    go_enter Tryd.func7, Tryd.ntmps7
    go_wp2
    repeat (go_quiet (fail); try go_wp2)
    go_ret
    exact ⟨by first | rfl | (simp; done) | (simp [*]; done), by repeat (first | exact Drawn0.refl _ | apply Drawn0.step)⟩
def sigillaw4_mark.f (a0 : Int) : Option (Int × Int × ByteArray) := some (wrap64 ((-1) - a0), a0, strOfNums (([(a0) % 256, (a0 / 256) % 256] : List Int)))
set_option maxHeartbeats 8000000 in
set_option maxRecDepth 100000 in
theorem sigillaw4_mark.calls (a0 : Int) (r1 : Int) (r2 : Int) (r3 : ByteArray) (w : World) (h : sigillaw4_mark.f a0 = some (r1, r2, r3)) :
    Calls Tryd.prog 8 #[.int .i64 a0] w fun e w' => e = .returned (.agg #[.int .i64 r1, .int .i64 r2, .string r3]) ∧ Below w.heap.size w w' := by
  have hu31 := Tryd.underlying31
  have HB := Aside0.mk (Below.refl w.heap.size w)
  have H : (some (wrap64 ((-1) - a0), a0, strOfNums (([(a0) % 256, (a0 / 256) % 256] : List Int)))) = some (r1, r2, r3) := h
  clear h
  obtain ⟨y135, hy135⟩ : ∃ y_ : List Int, y_ = (([(a0) % 256, (a0 / 256) % 256] : List Int)) := ⟨_, rfl⟩
  replace H : (some (wrap64 ((-1) - a0), a0, strOfNums y135)) = some (r1, r2, r3) := by first | (rw [hy135]; with_reducible exact H) | (have H2_ := (Option.bind_some _ _).symm.trans H; rw [hy135]; with_reducible exact H2_) | (have H2_ := (Option.bind_some _ _).symm.trans H; with_reducible exact H2_) | with_reducible exact H | (rw [hy135]; exact H) | exact H
  have Ny135 := Aside0.mk hy135
  clear hy135
  simp only [Option.some.injEq, Prod.mk.injEq] at H
  obtain ⟨rfl, rfl, rfl⟩ := H
  go_enter Tryd.func8, Tryd.ntmps8
  go_wp2_with (first | ((with_reducible refine gate_dst (N := 2) rfl ?_); refine box_event ?hg (N := 2) ?hd (cs := #[.int .i64 0, .int .i64 0, .string (⟨#[]⟩ : ByteArray)]) (t := 31) ?hr ?_; (case hd => rfl); (case hg => rfl); (case hr => first | (go_simp; done) | (go_simp; rfl)); intro gb134 hg w2 hbox hb; have n0_ := Aside0.mk (below_step (by repeat (first | (with_reducible first | exact HB.out | apply below_alloc | apply pw_below_drewN | apply below_drew1) | exact HB.out)) hb); have n1_ := Aside0.mk (hbox); have n2_ := Aside0.mk ((by rw [hg]; exact (below_size (by repeat (first | (with_reducible first | exact HB.out | apply below_alloc | apply pw_below_drewN | apply below_drew1) | exact HB.out))) : w.heap.size ≤ gb134)); have n3_ := Aside0.mk ((by rw [hg]; exact (below_size (by repeat (first | (with_reducible first | exact HB.out | apply below_alloc | apply pw_below_drewN | apply below_drew1) | exact HB.out))) : w.heap.size ≤ gb134)); clear HB; have HB := n0_; have BK134 := n1_; have GW134 := n2_; have GE134 := n3_; clear n0_ n1_ n2_ n3_; clear hb hbox hg) | ((with_reducible refine gate_dst (N := 11) rfl ?_); refine Kd.R_lit (Kd.int .u8) _ 5 ?hg (N := 11) ?hd (xs := ([(a0) % 256, (a0 / 256) % 256] : List Int)) (inner := [.int .u8 ((a0) % 256), .int .u8 ((a0 / 256) % 256)]) (ok := fun _ => True) (okp := fun _ => True) ?hr ?hp (fun _ hk => hk) trivial (Below.refl _ _) (Nat.le_refl _) (by simp) ?_; (case hd => rfl); (case hg => rfl); (case hr => first | (go_simp; done) | (go_simp; rfl)); (case hp => exact (Reps.one (show Kd.M (Kd.int .u8) _ _ _ ((a0) % 256) [.int .u8 ((a0) % 256)] from rfl) (Reps.one (show Kd.M (Kd.int .u8) _ _ _ ((a0 / 256) % 256) [.int .u8 ((a0 / 256) % 256)] from rfl) (Reps.none _ _)))); intro v136 w3 ho4 hb hg_ hnew_; clear hg_ hnew_; (first | rw [← Ny135.out] at ho4 | (simp only [Int.reduceToNat] at ho4; rw [← Ny135.out] at ho4)); have n0_ := Aside0.mk (Kd.R_lower ho4 (below_size (by repeat (first | (with_reducible first | exact HB.out | apply below_alloc | apply pw_below_drewN | apply below_drew1 | refine below_set ?_ GE134.out) | exact HB.out)))); have n1_ := Aside0.mk (blk_below (g := gb134) (o := .cells #[.int .i64 0, .int .i64 0, .string (⟨#[]⟩ : ByteArray)] 31 (0, 0)) (by (with_reducible repeat (first | refine blk_drewN ?_ _ | refine blk_drew ?_ | refine blk_alloc ?_ _)); exact BK134.out) hb); have n2_ := Aside0.mk (below_step (by repeat (first | (with_reducible first | exact HB.out | apply below_alloc | apply pw_below_drewN | apply below_drew1 | refine below_set ?_ GE134.out) | exact HB.out)) hb); clear BK134; clear HB; have HO137 := n0_; have BK134 := n1_; have HB := n2_; clear n0_ n1_ n2_; clear hb ho4; have hcv5 := own_string (P := Tryd.prog) Tryd.underlying49 Tryd.underlying5 Tryd.underlying9 (Kd.own_of_R HO137.out); have hcz6_0 : w3.cell? ⟨gb134, 0, none⟩ = some (.int .i64 0) := (blk_cell BK134.out 0).trans rfl; have hcz6_1 : w3.cell? ⟨gb134, 1, none⟩ = some (.int .i64 0) := (blk_cell BK134.out 1).trans rfl; have hcz6_2 : w3.cell? ⟨gb134, 2, none⟩ = some (.string (⟨#[]⟩ : ByteArray)) := (blk_cell BK134.out 2).trans rfl; have hfz6_0 := blk_frozen BK134.out 0; have hfz6_1 := blk_frozen BK134.out 1; have hfz6_2 := blk_frozen BK134.out 2))
  refine bodyPost_ret (results_cell_row rfl _ _ gb134 31 #[.int .i64 (wrap64 ((-1) - a0)), .int .i64 a0, .string (strOfNums y135)] (0, 0) _ rfl (by (with_reducible repeat (first | refine blk_drewN ?_ _ | refine blk_drew ?_ | refine blk_alloc ?_ _)); refine blk_put (cs := #[.int .i64 (wrap64 ((-1) - a0)), .int .i64 a0, .string (⟨#[]⟩ : ByteArray)]) ?_ 2 _ rfl; (with_reducible repeat (first | refine blk_drewN ?_ _ | refine blk_drew ?_ | refine blk_alloc ?_ _)); refine blk_put (cs := #[.int .i64 (wrap64 ((-1) - a0)), .int .i64 0, .string (⟨#[]⟩ : ByteArray)]) ?_ 1 _ rfl; (with_reducible repeat (first | refine blk_drewN ?_ _ | refine blk_drew ?_ | refine blk_alloc ?_ _)); refine blk_put (cs := #[.int .i64 0, .int .i64 0, .string (⟨#[]⟩ : ByteArray)]) ?_ 0 _ rfl; (with_reducible repeat (first | refine blk_drewN ?_ _ | refine blk_drew ?_ | refine blk_alloc ?_ _)); exact BK134.out) Tryd.underlying31 rfl (by kernel_rfl)) rfl ?_
  exact ⟨by first | rfl | (simp [errW_none, errW_some] <;> rfl) | (simp [*, errW_none, errW_some] <;> rfl), by repeat (first | (with_reducible first | exact HB.out | apply below_alloc | apply pw_below_drewN | apply below_drew1 | refine below_set ?_ GE134.out) | exact HB.out)⟩
def sigillaw4_head.f (k : Nat)  : Option (Bool) := (scan_Tokens.f k (⟨#[97, 61, 49]⟩ : ByteArray)).bind fun bt138 => (if bt138.2.2 = 0 then (if bt138.2.1 = 0 then (if (bt138.1.length : Int) = 4 then (if 0 < (bt138.1.length : Int) then (if (((rd_T31 bt138.1 0).f0) == 1 && (((rd_T31 bt138.1 0).f1) == 0 && ((((rd_T31 bt138.1 0).f2).toList) == ([97] : List UInt8)))) = true then (if 3 < (bt138.1.length : Int) then (some (((rd_T31 bt138.1 3).f0) == 5 && (((rd_T31 bt138.1 3).f1) == 3 && ((((rd_T31 bt138.1 3).f2).toList) == ([] : List UInt8))))) else (none)) else (some false)) else (none)) else (some false)) else (some false)) else (some false))
set_option maxHeartbeats 8000000 in
set_option maxRecDepth 100000 in
theorem sigillaw4_head.calls (k : Nat)  (r : Bool) (w : World) (h : sigillaw4_head.f k  = some r) (hL : LaidW w) :
    Calls Tryd.prog 5 #[] w fun e w' => e = .returned (.bool r) ∧ Below w.heap.size w w' := by
  have HL := Aside0.mk hL
  clear hL
  have hu31 := Tryd.underlying31
  have HB := Aside0.mk (Below.refl w.heap.size w)
  have H : ((scan_Tokens.f k (⟨#[97, 61, 49]⟩ : ByteArray)).bind fun bt138 => (if bt138.2.2 = 0 then (if bt138.2.1 = 0 then (if (bt138.1.length : Int) = 4 then (if 0 < (bt138.1.length : Int) then (if (((rd_T31 bt138.1 0).f0) == 1 && (((rd_T31 bt138.1 0).f1) == 0 && ((((rd_T31 bt138.1 0).f2).toList) == ([97] : List UInt8)))) = true then (if 3 < (bt138.1.length : Int) then (some (((rd_T31 bt138.1 3).f0) == 5 && (((rd_T31 bt138.1 3).f1) == 3 && ((((rd_T31 bt138.1 3).f2).toList) == ([] : List UInt8))))) else (none)) else (some false)) else (none)) else (some false)) else (some false)) else (some false))) = some r := h
  clear h
  replace H := Option.bind_eq_some_iff.mp H
  obtain ⟨⟨t138, t139, t140⟩, A10, H⟩ := H
  replace H : (if t140 = 0 then (if t139 = 0 then (if (t138.length : Int) = 4 then (if 0 < (t138.length : Int) then (if (((rd_T31 t138 0).f0) == 1 && (((rd_T31 t138 0).f1) == 0 && ((((rd_T31 t138 0).f2).toList) == ([97] : List UInt8)))) = true then (if 3 < (t138.length : Int) then (some (((rd_T31 t138 3).f0) == 5 && (((rd_T31 t138 3).f1) == 3 && ((((rd_T31 t138 3).f2).toList) == ([] : List UInt8))))) else (none)) else (some false)) else (none)) else (some false)) else (some false)) else (some false)) = some r := H
  have A1 := Aside0.mk A10
  clear A10
  by_cases c2 : t140 = 0
  · rw [if_pos c2] at H
    have c2b0 : (t140 == 0) = true := beq_iff_eq.mpr c2
    have c2b1 : (t140 != 0) = false := bne_eq_false_iff_eq.mpr c2
    clear c2
    by_cases c3 : t139 = 0
    · rw [if_pos c3] at H
      have c3b0 : (t139 == 0) = true := beq_iff_eq.mpr c3
      have c3b1 : (t139 != 0) = false := bne_eq_false_iff_eq.mpr c3
      clear c3
      by_cases c4 : (t138.length : Int) = 4
      · rw [if_pos c4] at H
        have c4b0 : ((t138.length : Int) == 4) = true := beq_iff_eq.mpr c4
        have c4b1 : ((t138.length : Int) != 4) = false := bne_eq_false_iff_eq.mpr c4
        clear c4
        by_cases c5 : 0 < (t138.length : Int)
        · rw [if_pos c5] at H
          have c5b0 : decide (0 < (t138.length : Int)) = true := decide_eq_true c5
          have c5b1 : decide (0 < t138.length) = true := decide_eq_true (by omega)
          clear c5
          by_cases c6 : (((rd_T31 t138 0).f0) == 1 && (((rd_T31 t138 0).f1) == 0 && ((((rd_T31 t138 0).f2).toList) == ([97] : List UInt8)))) = true
          · rw [if_pos c6] at H
            have c6b0 : (((rd_T31 t138 0).f0) == 1 && (((rd_T31 t138 0).f1) == 0 && ((((rd_T31 t138 0).f2).toList) == ([97] : List UInt8)))) = true := c6
            (try (have c6b1 : decide (((rd_T31 t138 0).f0) = 1 && (((rd_T31 t138 0).f1) == 0 && ((((rd_T31 t138 0).f2).toList) == ([97] : List UInt8)))) = true := by simpa using c6))
            (try (have c6b2 : (((rd_T31 t138 0).f0) == 1 && (((rd_T31 t138 0).f1) == 0 && ((((rd_T31 t138 0).f2).toList) == ([97] : List UInt8)))) = true := by simpa using c6))
            clear c6
            by_cases c7 : 3 < (t138.length : Int)
            · rw [if_pos c7] at H
              have c7b0 : decide (3 < (t138.length : Int)) = true := decide_eq_true c7
              have c7b1 : decide (3 < t138.length) = true := decide_eq_true (by omega)
              clear c7
              obtain rfl := Option.some.inj H
              go_enter Tryd.func5, Tryd.ntmps5
              go_wp2_with (first | ((with_reducible refine gate_callee (f := 6) rfl ?_); refine goesL_ (some 5) rfl rfl Tryd.func6 (by kernel_rfl) rfl #[.string (⟨#[97, 61, 49]⟩ : ByteArray)] rfl (by (try simp only [List.map_toArray, List.map_cons, List.map_nil]); first | done | rfl | (simp only [List.length_drop, List.length_take]; rfl)) ?_; (with_reducible refine (scan_Tokens.calls k (⟨#[97, 61, 49]⟩ : ByteArray) t138 t139 t140 _ A1.out (LaidW.below HL.out (by repeat (first | (with_reducible first | exact HB.out | apply below_alloc | apply pw_below_drewN | apply below_drew1) | exact HB.out | exact Below.refl _ _)))).mono ?_); rintro e w8 ⟨v141, rfl, ho0, hb⟩; refine ⟨_, rfl, ?_⟩; have n0_ := Aside0.mk (Kd.R_lower ho0 (below_size (by repeat (first | (with_reducible first | exact HB.out | apply below_alloc | apply pw_below_drewN | apply below_drew1) | exact HB.out)))); have n1_ := Aside0.mk (below_step (by repeat (first | (with_reducible first | exact HB.out | apply below_alloc | apply pw_below_drewN | apply below_drew1) | exact HB.out)) hb); clear HB; have HO142 := n0_; have HB := n1_; clear n0_ n1_; (try clear hb); (try clear hb2); (try clear hk); (try clear hi); (try clear ho0); obtain ⟨Ao9, co9, eo9⟩ := Kd.R_slice HO142.out; subst eo9; have p143 : 0 ≤ (0 : Int) := (by omega); have q143 : 0 < (t138.length : Int) := of_decide_eq_true (by first | (with_reducible assumption) | assumption); obtain ⟨ad143, e143, hx143_0, hx143_1, hx143_2⟩ := at_T31 (Kd.R_reads' HO142.out).2.2 0 p143 q143; cases e143; have qi143 : (0 < t138.length) = True := eq_true (by omega); (try rw [show ((0 : Int)).toNat = 0 from rfl] at hx143_0); (try rw [show 0 * 3 = 0 from rfl] at hx143_0); (try rw [Addr.add_zero'] at hx143_0); (try rw [show ((0 : Int)).toNat = 0 from rfl] at hx143_1); (try rw [show 0 * 3 = 0 from rfl] at hx143_1); (try rw [Addr.add_zero'] at hx143_1); (try rw [show ((0 : Int)).toNat = 0 from rfl] at hx143_2); (try rw [show 0 * 3 = 0 from rfl] at hx143_2); (try rw [Addr.add_zero'] at hx143_2); replace p143 := eq_true p143; replace q143 := eq_true q143; have p144 : 0 ≤ (3 : Int) := (by omega); have q144 : 3 < (t138.length : Int) := of_decide_eq_true (by first | (with_reducible assumption) | assumption); obtain ⟨ad144, e144, hx144_0, hx144_1, hx144_2⟩ := at_T31 (Kd.R_reads' HO142.out).2.2 3 p144 q144; obtain rfl : ad143 = ad144 := (by injection e144); (try simp only [show (3 : Int).toNat = 3 from rfl, Nat.reduceMul, Nat.reduceEqDiff, Go.Addr.add, ↓reduceIte] at hx144_0); (try simp only [show (3 : Int).toNat = 3 from rfl, Nat.reduceMul, Nat.reduceEqDiff, Go.Addr.add, ↓reduceIte] at hx144_1); (try simp only [show (3 : Int).toNat = 3 from rfl, Nat.reduceMul, Nat.reduceEqDiff, Go.Addr.add, ↓reduceIte] at hx144_2); have qi144 : (3 < t138.length) = True := eq_true (by omega); (try rw [show ((3 : Int)).toNat = 3 from rfl] at hx144_0); (try rw [show 3 * 3 = 9 from rfl] at hx144_0); (try rw [show ((3 : Int)).toNat = 3 from rfl] at hx144_1); (try rw [show 3 * 3 = 9 from rfl] at hx144_1); (try rw [show ((3 : Int)).toNat = 3 from rfl] at hx144_2); (try rw [show 3 * 3 = 9 from rfl] at hx144_2); replace p144 := eq_true p144; replace q144 := eq_true q144))
              go_ret
              exact ⟨by first | rfl | (simp [errW_none, errW_some] <;> rfl) | (simp [*, errW_none, errW_some] <;> rfl), by repeat (first | (with_reducible first | exact HB.out | apply below_alloc | apply pw_below_drewN | apply below_drew1) | exact HB.out)⟩
            · rw [if_neg c7] at H
              exact absurd H (by simp)
          · rw [if_neg c6] at H
            have c6b0 : (((rd_T31 t138 0).f0) == 1 && (((rd_T31 t138 0).f1) == 0 && ((((rd_T31 t138 0).f2).toList) == ([97] : List UInt8)))) = false := by simpa using c6
            (try (have c6b1 : decide (((rd_T31 t138 0).f0) = 1 && (((rd_T31 t138 0).f1) == 0 && ((((rd_T31 t138 0).f2).toList) == ([97] : List UInt8)))) = false := by simpa using c6))
            (try (have c6b2 : (((rd_T31 t138 0).f0) == 1 && (((rd_T31 t138 0).f1) == 0 && ((((rd_T31 t138 0).f2).toList) == ([97] : List UInt8)))) = false := by simpa using c6))
            (try (have c6b3 : ¬ (((rd_T31 t138 0).f0) = 1 && (((rd_T31 t138 0).f1) == 0 && ((((rd_T31 t138 0).f2).toList) == ([97] : List UInt8)))) := by simpa using c6))
            clear c6
            obtain rfl := Option.some.inj H
            go_enter Tryd.func5, Tryd.ntmps5
            go_wp2_with (first | ((with_reducible refine gate_callee (f := 6) rfl ?_); refine goesL_ (some 5) rfl rfl Tryd.func6 (by kernel_rfl) rfl #[.string (⟨#[97, 61, 49]⟩ : ByteArray)] rfl (by (try simp only [List.map_toArray, List.map_cons, List.map_nil]); first | done | rfl | (simp only [List.length_drop, List.length_take]; rfl)) ?_; (with_reducible refine (scan_Tokens.calls k (⟨#[97, 61, 49]⟩ : ByteArray) t138 t139 t140 _ A1.out (LaidW.below HL.out (by repeat (first | (with_reducible first | exact HB.out | apply below_alloc | apply pw_below_drewN | apply below_drew1) | exact HB.out | exact Below.refl _ _)))).mono ?_); rintro e w10 ⟨v141, rfl, ho0, hb⟩; refine ⟨_, rfl, ?_⟩; have n0_ := Aside0.mk (Kd.R_lower ho0 (below_size (by repeat (first | (with_reducible first | exact HB.out | apply below_alloc | apply pw_below_drewN | apply below_drew1) | exact HB.out)))); have n1_ := Aside0.mk (below_step (by repeat (first | (with_reducible first | exact HB.out | apply below_alloc | apply pw_below_drewN | apply below_drew1) | exact HB.out)) hb); clear HB; have HO142 := n0_; have HB := n1_; clear n0_ n1_; (try clear hb); (try clear hb2); (try clear hk); (try clear hi); (try clear ho0); obtain ⟨Ao11, co11, eo11⟩ := Kd.R_slice HO142.out; subst eo11; have p143 : 0 ≤ (0 : Int) := (by omega); have q143 : 0 < (t138.length : Int) := of_decide_eq_true (by first | (with_reducible assumption) | assumption); obtain ⟨ad143, e143, hx143_0, hx143_1, hx143_2⟩ := at_T31 (Kd.R_reads' HO142.out).2.2 0 p143 q143; cases e143; have qi143 : (0 < t138.length) = True := eq_true (by omega); (try rw [show ((0 : Int)).toNat = 0 from rfl] at hx143_0); (try rw [show 0 * 3 = 0 from rfl] at hx143_0); (try rw [Addr.add_zero'] at hx143_0); (try rw [show ((0 : Int)).toNat = 0 from rfl] at hx143_1); (try rw [show 0 * 3 = 0 from rfl] at hx143_1); (try rw [Addr.add_zero'] at hx143_1); (try rw [show ((0 : Int)).toNat = 0 from rfl] at hx143_2); (try rw [show 0 * 3 = 0 from rfl] at hx143_2); (try rw [Addr.add_zero'] at hx143_2); replace p143 := eq_true p143; replace q143 := eq_true q143))
            go_ret
            exact ⟨by first | rfl | (simp [errW_none, errW_some] <;> rfl) | (simp [*, errW_none, errW_some] <;> rfl), by repeat (first | (with_reducible first | exact HB.out | apply below_alloc | apply pw_below_drewN | apply below_drew1) | exact HB.out)⟩
        · rw [if_neg c5] at H
          exact absurd H (by simp)
      · rw [if_neg c4] at H
        have c4b0 : ((t138.length : Int) == 4) = false := beq_eq_false_iff_ne.mpr c4
        have c4b1 : ((t138.length : Int) != 4) = true := bne_iff_ne.mpr c4
        obtain rfl := Option.some.inj H
        go_enter Tryd.func5, Tryd.ntmps5
        go_wp2_with (first | ((with_reducible refine gate_callee (f := 6) rfl ?_); refine goesL_ (some 5) rfl rfl Tryd.func6 (by kernel_rfl) rfl #[.string (⟨#[97, 61, 49]⟩ : ByteArray)] rfl (by (try simp only [List.map_toArray, List.map_cons, List.map_nil]); first | done | rfl | (simp only [List.length_drop, List.length_take]; rfl)) ?_; (with_reducible refine (scan_Tokens.calls k (⟨#[97, 61, 49]⟩ : ByteArray) t138 t139 t140 _ A1.out (LaidW.below HL.out (by repeat (first | (with_reducible first | exact HB.out | apply below_alloc | apply pw_below_drewN | apply below_drew1) | exact HB.out | exact Below.refl _ _)))).mono ?_); rintro e w12 ⟨v141, rfl, ho0, hb⟩; refine ⟨_, rfl, ?_⟩; have n0_ := Aside0.mk (Kd.R_lower ho0 (below_size (by repeat (first | (with_reducible first | exact HB.out | apply below_alloc | apply pw_below_drewN | apply below_drew1) | exact HB.out)))); have n1_ := Aside0.mk (below_step (by repeat (first | (with_reducible first | exact HB.out | apply below_alloc | apply pw_below_drewN | apply below_drew1) | exact HB.out)) hb); clear HB; have HO142 := n0_; have HB := n1_; clear n0_ n1_; (try clear hb); (try clear hb2); (try clear hk); (try clear hi); (try clear ho0); obtain ⟨Ao13, co13, eo13⟩ := Kd.R_slice HO142.out; subst eo13))
        go_ret
        exact ⟨by first | rfl | (simp [errW_none, errW_some] <;> rfl) | (simp [*, errW_none, errW_some] <;> rfl), by repeat (first | (with_reducible first | exact HB.out | apply below_alloc | apply pw_below_drewN | apply below_drew1) | exact HB.out)⟩
    · rw [if_neg c3] at H
      have c3b0 : (t139 == 0) = false := beq_eq_false_iff_ne.mpr c3
      have c3b1 : (t139 != 0) = true := bne_iff_ne.mpr c3
      obtain rfl := Option.some.inj H
      go_enter Tryd.func5, Tryd.ntmps5
      go_wp2_with (first | ((with_reducible refine gate_callee (f := 6) rfl ?_); refine goesL_ (some 5) rfl rfl Tryd.func6 (by kernel_rfl) rfl #[.string (⟨#[97, 61, 49]⟩ : ByteArray)] rfl (by (try simp only [List.map_toArray, List.map_cons, List.map_nil]); first | done | rfl | (simp only [List.length_drop, List.length_take]; rfl)) ?_; (with_reducible refine (scan_Tokens.calls k (⟨#[97, 61, 49]⟩ : ByteArray) t138 t139 t140 _ A1.out (LaidW.below HL.out (by repeat (first | (with_reducible first | exact HB.out | apply below_alloc | apply pw_below_drewN | apply below_drew1) | exact HB.out | exact Below.refl _ _)))).mono ?_); rintro e w14 ⟨v141, rfl, ho0, hb⟩; refine ⟨_, rfl, ?_⟩; have n0_ := Aside0.mk (Kd.R_lower ho0 (below_size (by repeat (first | (with_reducible first | exact HB.out | apply below_alloc | apply pw_below_drewN | apply below_drew1) | exact HB.out)))); have n1_ := Aside0.mk (below_step (by repeat (first | (with_reducible first | exact HB.out | apply below_alloc | apply pw_below_drewN | apply below_drew1) | exact HB.out)) hb); clear HB; have HO142 := n0_; have HB := n1_; clear n0_ n1_; (try clear hb); (try clear hb2); (try clear hk); (try clear hi); (try clear ho0)))
      go_ret
      exact ⟨by first | rfl | (simp [errW_none, errW_some] <;> rfl) | (simp [*, errW_none, errW_some] <;> rfl), by repeat (first | (with_reducible first | exact HB.out | apply below_alloc | apply pw_below_drewN | apply below_drew1) | exact HB.out)⟩
  · rw [if_neg c2] at H
    have c2b0 : (t140 == 0) = false := beq_eq_false_iff_ne.mpr c2
    have c2b1 : (t140 != 0) = true := bne_iff_ne.mpr c2
    obtain rfl := Option.some.inj H
    go_enter Tryd.func5, Tryd.ntmps5
    go_wp2_with (first | ((with_reducible refine gate_callee (f := 6) rfl ?_); refine goesL_ (some 5) rfl rfl Tryd.func6 (by kernel_rfl) rfl #[.string (⟨#[97, 61, 49]⟩ : ByteArray)] rfl (by (try simp only [List.map_toArray, List.map_cons, List.map_nil]); first | done | rfl | (simp only [List.length_drop, List.length_take]; rfl)) ?_; (with_reducible refine (scan_Tokens.calls k (⟨#[97, 61, 49]⟩ : ByteArray) t138 t139 t140 _ A1.out (LaidW.below HL.out (by repeat (first | (with_reducible first | exact HB.out | apply below_alloc | apply pw_below_drewN | apply below_drew1) | exact HB.out | exact Below.refl _ _)))).mono ?_); rintro e w15 ⟨v141, rfl, ho0, hb⟩; refine ⟨_, rfl, ?_⟩; have n0_ := Aside0.mk (Kd.R_lower ho0 (below_size (by repeat (first | (with_reducible first | exact HB.out | apply below_alloc | apply pw_below_drewN | apply below_drew1) | exact HB.out)))); have n1_ := Aside0.mk (below_step (by repeat (first | (with_reducible first | exact HB.out | apply below_alloc | apply pw_below_drewN | apply below_drew1) | exact HB.out)) hb); clear HB; have HO142 := n0_; have HB := n1_; clear n0_ n1_; (try clear hb); (try clear hb2); (try clear hk); (try clear hi); (try clear ho0)))
    go_ret
    exact ⟨by first | rfl | (simp [errW_none, errW_some] <;> rfl) | (simp [*, errW_none, errW_some] <;> rfl), by repeat (first | (with_reducible first | exact HB.out | apply below_alloc | apply pw_below_drewN | apply below_drew1) | exact HB.out)⟩
end Go.Proofs.YtbpiahpkbapijaaDoor.A
end
