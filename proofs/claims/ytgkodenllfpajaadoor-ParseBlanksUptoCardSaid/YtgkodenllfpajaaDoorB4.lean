/- Lemmas and walks for the claim; no condition beyond what each states. -/
import Derived.Test.YtgkodenllfpajaaDoorB3
section
namespace Go.Proofs.YtgkodenllfpajaaDoor.A
open Go.RowKit Go.Proofs.YtgkodenllfpajaaDoorW.PrintWords Go.Proofs.YtgkodenllfpajaaDoorW.PrintLast Go.Proofs.YtgkodenllfpajaaDoorW.PrintMore
attribute [local go_sem] max2_int min2_int max_two min_two max_three min_three max_four min_four
set_option linter.unusedVariables false
set_option linter.unusedSimpArgs false
attribute [local go_sem high] eqA116
theorem infoTok : (Tryd.prog.info? 42).map (fun i => (i.zero, i.size, i.bytes)) = some (some (.agg #[(.int .i64 0), (.int .i64 0), (.string ⟨#[]⟩)]), 3, 32) := by kernel_rfl
def fnOf (c : Int) : Nat := if c = 0 then 30 else if c = 1 then 31 else if c = 2 then 32 else if c = 3 then 33 else if c = 4 then 34 else if c = 5 then 35 else 36
theorem begins_calls (w : World) : Calls Tryd.prog 16 #[] w fun e w' => e = .returned (.agg #[.func (.func 30) #[] #[], .func (.func 31) #[] #[], .func (.func 32) #[] #[], .func (.func 33) #[] #[], .func (.func 34) #[] #[], .func (.func 35) #[] #[], .func (.func 36) #[] #[]]) ∧ Below w.heap.size w w' := by
 go_enter Tryd.func16, Tryd.ntmps16
 go_wp2
 exact bodyPost_ret (v := .agg #[.func (.func 30) #[] #[], .func (.func 31) #[] #[], .func (.func 32) #[] #[], .func (.func 33) #[] #[], .func (.func 34) #[] #[], .func (.func 35) #[] #[], .func (.func 36) #[] #[]]) (by simp [results, Tryd.results16, go_sem]) rfl ⟨rfl, (Below.refl _ _).alloc (Nat.le_refl _) _⟩
theorem heap_lt {w : World} {i : Nat} {o : Obj} (h : w.heap[i]? = some o) : i < w.heap.size := (Array.getElem?_eq_some_iff.1 h).1
theorem disp0_calls (t : ByteArray) (w : World) : Calls Tryd.prog 30 #[.string t] w fun e w' => e = .returned (.agg #[.int .i64 0, .int .i64 0, .int .i64 40]) ∧ Below w.heap.size w w' := by
 go_enter Tryd.func30, Tryd.ntmps30
 go_wp2
 exact bodyPost_ret (v := .agg #[.int .i64 0, .int .i64 0, .int .i64 40]) (by simp [results, Tryd.results30, go_sem]) rfl ⟨rfl, (Below.refl _ _).alloc (Nat.le_refl _) _⟩
theorem disp1_calls (t : ByteArray) (w : World) : Calls Tryd.prog 31 #[.string t] w fun e w' => e = .returned (.agg #[.int .i64 0, .int .i64 1, .int .i64 0]) ∧ Below w.heap.size w w' := by
 go_enter Tryd.func31, Tryd.ntmps31
 go_wp2
 exact bodyPost_ret (v := .agg #[.int .i64 0, .int .i64 1, .int .i64 0]) (by simp [results, Tryd.results31, go_sem]) rfl ⟨rfl, (Below.refl _ _).alloc (Nat.le_refl _) _⟩
theorem disp5_calls (t : ByteArray) (w : World) : Calls Tryd.prog 35 #[.string t] w fun e w' => e = .returned (.agg #[.int .i64 4, .int .i64 1, .int .i64 0]) ∧ Below w.heap.size w w' := by
 go_enter Tryd.func35, Tryd.ntmps35
 go_wp2
 exact bodyPost_ret (v := .agg #[.int .i64 4, .int .i64 1, .int .i64 0]) (by simp [results, Tryd.results35, go_sem]) rfl ⟨rfl, (Below.refl _ _).alloc (Nat.le_refl _) _⟩
theorem disp2_calls (k : Nat) (t : ByteArray) (r : Int) (w : World) (h : scan_row.f k t = some r) : Calls Tryd.prog 32 #[.string t] w fun e w' => e = .returned (.agg #[.int .i64 1, .int .i64 r, .int .i64 0]) ∧ Below w.heap.size w w' := by
 have A := Aside0.mk h
 clear h
 go_enter Tryd.func32, Tryd.ntmps32
 go_wp2_with (go_at_call 26; refine (scan_row.calls k t r _ A.out).mono ?_; rintro e w' ⟨rfl, ⟨nd, rfl⟩⟩)
 exact bodyPost_ret (v := .agg #[.int .i64 1, .int .i64 r, .int .i64 0]) (by simp [results, Tryd.results32, go_sem]) rfl ⟨rfl, (((pw_below_drewN ((Below.refl _ _).alloc (Nat.le_refl _) _) nd).setCell (by simp) _).setCell (by simp) _).setCell (by simp) _⟩
def scan_disp (k : Nat) (c : Int) (t : ByteArray) : Option (Int × Int × Int) := if c = 0 then some (0, 0, 40) else if c = 1 then some (0, 1, 0) else if c = 2 then (scan_row.f k t).bind fun n => some (1, n, 0) else if c = 3 then scan_number.f k t else if c = 4 then scan_str.f k t else if c = 5 then some (4, 1, 0) else if c = 6 then scan_comment.f t else none
theorem disp_calls (k : Nat) (c : Int) (t : ByteArray) (r1 r2 r3 : Int) (h : scan_disp k c t = some (r1, r2, r3)) : 0 ≤ c ∧ c < 7 ∧ ∀ w, LaidW w → Calls Tryd.prog (fnOf c) #[.string t] w fun e w' => e = .returned (.agg #[.int .i64 r1, .int .i64 r2, .int .i64 r3]) ∧ Below w.heap.size w w' := by
 unfold scan_disp at h
 by_cases c0 : c = 0
 ·subst c0
  simp only [if_true, Option.some.injEq, Prod.mk.injEq] at h
  obtain ⟨rfl, rfl, rfl⟩ := h
  exact ⟨by omega, by omega, fun w _ => disp0_calls t w⟩
 rw [if_neg c0] at h
 by_cases c1 : c = 1
 ·subst c1
  simp only [if_true, Option.some.injEq, Prod.mk.injEq] at h
  obtain ⟨rfl, rfl, rfl⟩ := h
  exact ⟨by omega, by omega, fun w _ => disp1_calls t w⟩
 rw [if_neg c1] at h
 by_cases c2 : c = 2
 ·subst c2
  rw [if_pos rfl] at h
  obtain ⟨n, hn, h⟩ := Option.bind_eq_some_iff.mp h
  simp only [Option.some.injEq, Prod.mk.injEq] at h
  obtain ⟨rfl, rfl, rfl⟩ := h
  exact ⟨by omega, by omega, fun w _ => disp2_calls k t n w hn⟩
 rw [if_neg c2] at h
 by_cases c3 : c = 3
 ·subst c3
  rw [if_pos rfl] at h
  exact ⟨by omega, by omega, fun w _ => scan_number.calls k t r1 r2 r3 w h⟩
 rw [if_neg c3] at h
 by_cases c4 : c = 4
 ·subst c4
  rw [if_pos rfl] at h
  exact ⟨by omega, by omega, fun w _ => scan_str.calls k t r1 r2 r3 w h⟩
 rw [if_neg c4] at h
 by_cases c5 : c = 5
 ·subst c5
  simp only [if_true, Option.some.injEq, Prod.mk.injEq] at h
  obtain ⟨rfl, rfl, rfl⟩ := h
  exact ⟨by omega, by omega, fun w _ => disp5_calls t w⟩
 rw [if_neg c5] at h
 by_cases c6 : c = 6
 ·subst c6
  rw [if_pos rfl] at h
  exact ⟨by omega, by omega, fun w hL => scan_comment.calls t r1 r2 r3 w h hL⟩
 ·rw [if_neg c6] at h
  cases h
theorem enter_of {f : FuncId} {fn : Func} {c : Code} (hf : Tryd.prog.funcs[f]? = some fn) (hname : (fn.name == "runtime.NumGoroutine") = false) (hb : fn.body = some c) (args : Array Value) (w : World) :
  Sem.run Tryd.prog (callFunc f args) w = .ok (.enter f args) w := by
 have h1 : fn.name ≠ "runtime.NumGoroutine" := by simpa using hname
 simp [callFunc, hf, h1, hb]
theorem enter_disp (cn : Nat) (h : cn < 7) (args : Array Value) (w : World) : Sem.run Tryd.prog (callFunc (fnOf (cn : Int)) args) w = .ok (.enter (fnOf (cn : Int)) args) w := by
 match cn, h with
 | 0, _ => exact enter_of Tryd.func30 (by kernel_rfl) rfl args w
 | 1, _ => exact enter_of Tryd.func31 (by kernel_rfl) rfl args w
 | 2, _ => exact enter_of Tryd.func32 (by kernel_rfl) rfl args w
 | 3, _ => exact enter_of Tryd.func33 (by kernel_rfl) rfl args w
 | 4, _ => exact enter_of Tryd.func34 (by kernel_rfl) rfl args w
 | 5, _ => exact enter_of Tryd.func35 (by kernel_rfl) rfl args w
 | 6, _ => exact enter_of Tryd.func36 (by kernel_rfl) rfl args w
theorem boxed_at {W0 w5 : World} {a b c : Value} (g : Nat) (hb : Below (W0.alloc (.cells #[a, b, c] 54)).heap.size (W0.alloc (.cells #[a, b, c] 54)) w5) (hg : g = W0.heap.size) :
  w5.cell? ⟨g, 0, none⟩ = some a ∧ w5.cell? ⟨g, 1, none⟩ = some b ∧ w5.cell? ⟨g, 2, none⟩ = some c ∧ w5.frozen? ⟨g, 0, none⟩ = false ∧ w5.frozen? ⟨g, 1, none⟩ = false ∧ w5.frozen? ⟨g, 2, none⟩ = false := by
 subst hg
 exact ⟨(hb.cell (p := ⟨W0.heap.size, 0, none⟩) (by simp)).trans (by simp), (hb.cell (p := ⟨W0.heap.size, 1, none⟩) (by simp)).trans (by simp), (hb.cell (p := ⟨W0.heap.size, 2, none⟩) (by simp)).trans (by simp), (hb.frozen (p := ⟨W0.heap.size, 0, none⟩) (by simp)).trans (by simp), (hb.frozen (p := ⟨W0.heap.size, 1, none⟩) (by simp)).trans (by simp), (hb.frozen (p := ⟨W0.heap.size, 2, none⟩) (by simp)).trans (by simp)⟩
theorem boxed_n {W0 w5 : World} {a b c : Value} {n : Nat} (g : Nat) (hb : Below ((W0.alloc (.cells #[a, b, c] 54)).drewN n).heap.size ((W0.alloc (.cells #[a, b, c] 54)).drewN n) w5) (hg : g = W0.heap.size) :
  w5.cell? ⟨g, 0, none⟩ = some a ∧ w5.cell? ⟨g, 1, none⟩ = some b ∧ w5.cell? ⟨g, 2, none⟩ = some c ∧ w5.frozen? ⟨g, 0, none⟩ = false ∧ w5.frozen? ⟨g, 1, none⟩ = false ∧ w5.frozen? ⟨g, 2, none⟩ = false := by
 subst hg
 exact ⟨(hb.cell (p := ⟨W0.heap.size, 0, none⟩) (by simp)).trans (by simp), (hb.cell (p := ⟨W0.heap.size, 1, none⟩) (by simp)).trans (by simp), (hb.cell (p := ⟨W0.heap.size, 2, none⟩) (by simp)).trans (by simp), (hb.frozen (p := ⟨W0.heap.size, 0, none⟩) (by simp)).trans (by simp), (hb.frozen (p := ⟨W0.heap.size, 1, none⟩) (by simp)).trans (by simp), (hb.frozen (p := ⟨W0.heap.size, 2, none⟩) (by simp)).trans (by simp)⟩
theorem set3 {w5 : World} {g : Nat} {a b c : Value} (f0 : w5.cell? ⟨g, 0, none⟩ = some a) (f1 : w5.cell? ⟨g, 1, none⟩ = some b) (f2 : w5.cell? ⟨g, 2, none⟩ = some c) (x y z : Value) :
  (((w5.setCell ⟨g, 0, none⟩ x).setCell ⟨g, 1, none⟩ y).setCell ⟨g, 2, none⟩ z).cell? ⟨g, 0, none⟩ = some x ∧ (((w5.setCell ⟨g, 0, none⟩ x).setCell ⟨g, 1, none⟩ y).setCell ⟨g, 2, none⟩ z).cell? ⟨g, 1, none⟩ = some y ∧ (((w5.setCell ⟨g, 0, none⟩ x).setCell ⟨g, 1, none⟩ y).setCell ⟨g, 2, none⟩ z).cell? ⟨g, 2, none⟩ = some z := by
 refine ⟨?_, ?_, ?_⟩ <;> simp [go_sem, f0, f1, f2]
theorem ends_after {w wr W w5 : World} {g2 : Nat} {v6 : Value} {l : List S42} {o : Obj} (p1 p2 p3 : Int) (hg2 : w.heap.size ≤ g2) (HG : wr.heap[g2]? = some o) (HO : Kd.R k42 42 wr w.heap.size (fun b => b ≠ g2) v6 l) (HB : Below w.heap.size w wr)
  (hW : Below wr.heap.size wr W) (hb : Below W.heap.size W w5) :
  (w.heap.size ≤ w5.heap.size ∧ w5.heap.size ≠ g2) ∧ ((w5.alloc (.cells #[.int .i64 p1, .int .i64 p2, .int .i64 p3] 54)).cell? ⟨w5.heap.size, 0, none⟩ = some (.int .i64 p1) ∧ (w5.alloc (.cells #[.int .i64 p1, .int .i64 p2, .int .i64 p3] 54)).cell? ⟨w5.heap.size, 1, none⟩ = some (.int .i64 p2) ∧ (w5.alloc (.cells #[.int .i64 p1, .int .i64 p2, .int .i64 p3] 54)).cell? ⟨w5.heap.size, 2, none⟩ = some (.int .i64 p3)) ∧
   Kd.R k42 42 (w5.alloc (.cells #[.int .i64 p1, .int .i64 p2, .int .i64 p3] 54)) w.heap.size (fun b => b ≠ g2 ∧ b ≠ w5.heap.size) v6 l ∧ (w5.alloc (.cells #[.int .i64 p1, .int .i64 p2, .int .i64 p3] 54)).heap[g2]? = some o ∧ Below w.heap.size w (w5.alloc (.cells #[.int .i64 p1, .int .i64 p2, .int .i64 p3] 54)) := by
 have hlt := heap_lt HG
 have h5 : Below wr.heap.size wr w5 := below_then hW hW.size hb
 have hs := h5.size
 have hB5 : Below w.heap.size w w5 := below_then HB HB.size h5
 have hG5 : w5.heap[g2]? = some o := (h5.block g2 hlt).trans HG
 refine ⟨⟨hB5.size, by omega⟩, ⟨by simp, by simp, by simp⟩, Kd.R_alloc (Kd.R_mono (Kd.R_bound (Kd.R_below HO h5)) (fun k hk => ⟨hk.1, Nat.ne_of_lt hk.2.2.1⟩)) _, ?_, below_alloc hB5 _⟩
 rw [heap_alloc_old _ _ (by omega)]
 exact hG5
theorem ends_ahead {w wr W w5 : World} {g2 : Nat} {v6 : Value} {l : List S42} {o : Obj} (p1 p2 p3 : Int) (hg2 : w.heap.size ≤ g2) (HG : wr.heap[g2]? = some o) (HO : Kd.R k42 42 wr w.heap.size (fun b => b ≠ g2) v6 l) (HB : Below w.heap.size w wr)
  (hW : Below wr.heap.size wr W) (hb : Below W.heap.size W w5) {a b c : Value} (f0 : w5.cell? ⟨wr.heap.size, 0, none⟩ = some a) (f1 : w5.cell? ⟨wr.heap.size, 1, none⟩ = some b) (f2 : w5.cell? ⟨wr.heap.size, 2, none⟩ = some c) :
  (w.heap.size ≤ wr.heap.size ∧ wr.heap.size ≠ g2) ∧ ((((w5.setCell ⟨wr.heap.size, 0, none⟩ (.int .i64 p1)).setCell ⟨wr.heap.size, 1, none⟩ (.int .i64 p2)).setCell ⟨wr.heap.size, 2, none⟩ (.int .i64 p3)).cell? ⟨wr.heap.size, 0, none⟩ = some (.int .i64 p1) ∧ (((w5.setCell ⟨wr.heap.size, 0, none⟩ (.int .i64 p1)).setCell ⟨wr.heap.size, 1, none⟩ (.int .i64 p2)).setCell ⟨wr.heap.size, 2, none⟩ (.int .i64 p3)).cell? ⟨wr.heap.size, 1, none⟩ = some (.int .i64 p2) ∧ (((w5.setCell ⟨wr.heap.size, 0, none⟩ (.int .i64 p1)).setCell ⟨wr.heap.size, 1, none⟩ (.int .i64 p2)).setCell ⟨wr.heap.size, 2, none⟩ (.int .i64 p3)).cell? ⟨wr.heap.size, 2, none⟩ = some (.int .i64 p3)) ∧
   Kd.R k42 42 (((w5.setCell ⟨wr.heap.size, 0, none⟩ (.int .i64 p1)).setCell ⟨wr.heap.size, 1, none⟩ (.int .i64 p2)).setCell ⟨wr.heap.size, 2, none⟩ (.int .i64 p3)) w.heap.size (fun b => b ≠ g2 ∧ b ≠ wr.heap.size) v6 l ∧ (((w5.setCell ⟨wr.heap.size, 0, none⟩ (.int .i64 p1)).setCell ⟨wr.heap.size, 1, none⟩ (.int .i64 p2)).setCell ⟨wr.heap.size, 2, none⟩ (.int .i64 p3)).heap[g2]? = some o ∧ Below w.heap.size w (((w5.setCell ⟨wr.heap.size, 0, none⟩ (.int .i64 p1)).setCell ⟨wr.heap.size, 1, none⟩ (.int .i64 p2)).setCell ⟨wr.heap.size, 2, none⟩ (.int .i64 p3)) := by
 have hlt := heap_lt HG
 have h5 : Below wr.heap.size wr w5 := below_then hW hW.size hb
 have hs := h5.size
 have hB5 : Below w.heap.size w w5 := below_then HB HB.size h5
 have hG5 : w5.heap[g2]? = some o := (h5.block g2 hlt).trans HG
 have hR : Kd.R k42 42 w5 w.heap.size (fun b => b ≠ g2 ∧ b < wr.heap.size) v6 l := Kd.R_below (Kd.R_mono (Kd.R_bound HO) (fun k hk => ⟨hk.1, hk.2.2.1⟩)) h5
 refine ⟨⟨HB.size, by omega⟩, set3 f0 f1 f2 _ _ _, ?_, ?_, ((hB5.setCell HB.size _).setCell HB.size _).setCell HB.size _⟩
 ·refine Kd.R_mono (Kd.R_far (Kd.R_far (Kd.R_far hR (fun k hk => Nat.ne_of_lt hk.2) _) (fun k hk => Nat.ne_of_lt hk.2) _) (fun k hk => Nat.ne_of_lt hk.2) _) (fun k hk => ⟨hk.1, Nat.ne_of_lt hk.2⟩)
 ·rw [Below.heap_setCell _ _ _ _ (show g2 ≠ wr.heap.size by omega), Below.heap_setCell _ _ _ _ (show g2 ≠ wr.heap.size by omega), Below.heap_setCell _ _ _ _ (show g2 ≠ wr.heap.size by omega)]
  exact hG5
theorem grown_cell {W w9 : World} {row : Option Nat} (hg : W.grownBy w9 row) {b : Nat} (hb : b < W.heap.size) (hne : some b ≠ row) (j : Nat) : w9.cell? ⟨b, j, none⟩ = W.cell? ⟨b, j, none⟩ := by
 unfold World.cell?
 rw [hg.block b hb hne]
theorem cells_does {w : World} {g : Nat} (h : w.heap[g]? = some (.cells #[.func (.func 30) #[] #[], .func (.func 31) #[] #[], .func (.func 32) #[] #[], .func (.func 33) #[] #[], .func (.func 34) #[] #[], .func (.func 35) #[] #[], .func (.func 36) #[] #[]] 51 (0, 0))) :
  ∀ i : Nat, i < 7 → w.cell? ⟨g, i, none⟩ = some (.func (.func (fnOf i)) #[] #[]) := by
 intro i hi
 unfold World.cell?
 rw [h]
 match i, hi with
 | 0, _ => rfl
 | 1, _ => rfl
 | 2, _ => rfl
 | 3, _ => rfl
 | 4, _ => rfl
 | 5, _ => rfl
 | 6, _ => rfl
def scan_Tokens.l0 : Nat → ByteArray → List S42 → Int → Option (List S42 × Int × Int)
 | 0, _, _, _ => none
 | k + 1, s, l, at_ => if at_ = (s.size : Int) then (if l.length < 4398046511104 then some (l ++ [(⟨5, at_, (⟨#[]⟩ : ByteArray)⟩ : S42)], 0, 0) else none) else (if 0 ≤ at_ then (if at_ < (s.size : Int) then ((scan_class.f k (bt s at_)).bind fun c => ((scan_disp k c (s.extract at_.toNat s.size)).bind fun p =>
   (if ¬ ((p.1 = 0 ∧ p.2.2 = 0) ∨ p.2.2 = 43) ∧ (l.length : Int) ≥ 16383 then some (([] : List S42), at_, 45)
   else if p.2.2 ≠ 0 then some (([] : List S42), at_, p.2.2)
   else if p.1 = 0 then scan_Tokens.l0 k s l (wrap64 (at_ + p.2.1))
   else if at_ ≤ wrap64 (at_ + p.2.1) then (if wrap64 (at_ + p.2.1) ≤ (s.size : Int) then (if l.length < 4398046511104 then scan_Tokens.l0 k s (l ++ [(⟨p.1, at_, s.extract at_.toNat (wrap64 (at_ + p.2.1)).toNat⟩ : S42)]) (wrap64 (at_ + p.2.1)) else none) else none) else none))) else none) else none)
def scan_Tokens.f (k : Nat) (a0 : ByteArray) : Option (List S42 × Int × Int) := if (a0.size : Int) > 65536 then some (([] : List S42), 0, 2) else ((wire_Utf8.f k a0).bind fun t => if t ≥ 0 then some (([] : List S42), t, 44) else scan_Tokens.l0 k a0 ([] : List S42) 0)
set_option maxHeartbeats 8000000 in
set_option maxRecDepth 100000 in
theorem scan_Tokens.calls (k : Nat) (a0 : ByteArray) (r1 : List S42) (r2 : Int) (r3 : Int) (w : World) (h : scan_Tokens.f k a0 = some (r1, r2, r3)) (hL : LaidW w) :
  Calls Tryd.prog 10 #[.string a0] w fun e w' => ∃ v0_ : Value, e = .returned (.tuple #[v0_, .int .i64 r2, .int .i64 r3]) ∧ Kd.R k42 42 w' w.heap.size (fun _ => True) v0_ r1 ∧ Below w.heap.size w w' := by
 have HL := Aside0.mk hL
 clear hL
 have HB := Aside0.mk (Below.refl w.heap.size w)
 unfold scan_Tokens.f at h
 by_cases c2 : (a0.size : Int) > 65536
 ·rw [if_pos c2] at h
  have c2b0 : decide (65536 < (a0.size : Int)) = true := decide_eq_true c2
  have c2b1 : decide (65536 < a0.size) = true := decide_eq_true (by omega)
  clear c2
  simp only [Option.some.injEq, Prod.mk.injEq] at h
  obtain ⟨rfl, rfl, rfl⟩ := h
  go_enter Tryd.func10, Tryd.ntmps10
  go_wp2
  go_step3
  go_wp2
  rw [Exit.noGoto_ret]
  go_ret3
  exact ⟨_, rfl, Kd.R_nil _ _ _ _ _, HB.out⟩
 ·rw [if_neg c2] at h
  have c2b0 : decide (65536 < (a0.size : Int)) = false := decide_eq_false c2
  have c2b1 : decide (65536 < a0.size) = false := decide_eq_false (by omega)
  have c2s := Aside0.mk (show a0.size ≤ 65536 by omega)
  clear c2
  replace h := Option.bind_eq_some_iff.mp h
  obtain ⟨t, A30, h⟩ := h
  have A3 := Aside0.mk A30
  clear A30
  by_cases c4 : t ≥ 0
  ·rw [if_pos c4] at h
   have c4b0 : decide (0 ≤ t) = true := decide_eq_true c4
   clear c4
   simp only [Option.some.injEq, Prod.mk.injEq] at h
   obtain ⟨rfl, rfl, rfl⟩ := h
   go_enter Tryd.func10, Tryd.ntmps10
   go_wp2
   go_step3
   go_wp2_with (go_at_call 15; refine (wire_Utf8.calls k a0 t _ A3.out HL.out).mono ?_; rintro e w1 ⟨rfl, hb⟩; have n0_ := Aside0.mk hb; clear HB; have HB := n0_; clear n0_ hb)
   rw [Exit.noGoto_ret]
   go_ret3
   exact ⟨_, rfl, Kd.R_nil _ _ _ _ _, HB.out⟩
  ·rw [if_neg c4] at h
   have c4b0 : decide (0 ≤ t) = false := decide_eq_false c4
   clear c4
   have H' := Aside0.mk h
   clear h
   go_enter Tryd.func10, Tryd.ntmps10
   go_wp2
   go_step3
   go_wp2_with (first | (go_at_call 15; refine (wire_Utf8.calls k a0 t _ A3.out HL.out).mono ?_; rintro e w1 ⟨rfl, hb⟩; have n0_ := Aside0.mk hb; clear HB; have HB := n0_; clear n0_ hb) | (go_at_call 16; refine (begins_calls _).mono ?_; rintro e w2 ⟨rfl, hb⟩; have n0_ := Aside0.mk (below_then HB.out HB.out.size hb); have HS := Aside0.mk (Nat.le_trans HB.out.size hb.size); clear HB hb; have HB := n0_; clear n0_))
   have hb0 := HB.out
   have hs0 := HS.out
   go_step3
   go_wp2
   go_loopg [6, 8] k (fun kq v6 v8 w' => ∃ (l : List S42) (x8 : Int), v8 = .int .i64 x8 ∧ Aside0 (scan_Tokens.l0 kq a0 l x8 = some (r1, r2, r3)) ∧ Aside0 (kq ≤ k) ∧ Aside0 (Kd.R k42 42 w' w.heap.size (fun b => b ≠ w2.heap.size) v6 l) ∧ Aside0 (w'.heap[w2.heap.size]? = some (.cells #[.func (.func 30) #[] #[], .func (.func 31) #[] #[], .func (.func 32) #[] #[], .func (.func 33) #[] #[], .func (.func 34) #[] #[], .func (.func 35) #[] #[], .func (.func 36) #[] #[]] 51 (0, 0))) ∧ Aside0 (Below w.heap.size w w'))
   case atStart => exact ⟨[], 0, rfl, H', ⟨Nat.le_refl _⟩, ⟨Kd.R_nil _ _ _ _ _⟩, ⟨heap_alloc_new _ _⟩, ⟨below_alloc hb0 _⟩⟩
   case round =>
    clear H' HB hb0
    obtain ⟨l, x8, rfl, HA, HK1, HO, HG, HB⟩ := hrel
    cases gk with
    | zero => exact absurd HA.out (by simp [scan_Tokens.l0])
    | succ k1 =>
     have H := HA.out
     clear HA
     simp only [scan_Tokens.l0] at H
     by_cases c5 : x8 = (a0.size : Int)
     ·rw [if_pos c5] at H
      have c5b0 : (x8 == (a0.size : Int)) = true := beq_iff_eq.mpr c5
      clear c5
      by_cases c6 : l.length < 4398046511104
      ·rw [if_pos c6] at H
       have LM := Aside0.mk c6
       clear c6
       simp only [Option.some.injEq, Prod.mk.injEq] at H
       obtain ⟨rfl, rfl, rfl⟩ := H
       have hlt := Aside0.mk (heap_lt HG.out)
       go_wp2_with (first | ((with_reducible refine gate_builtin (b := .append) (xs := #[.tmp 89, .tmp 92]) rfl ?_); at_builtin; refine Kd.R_append k42 (w0 := w) w.heap.size rfl (.tmp 89) (.tmp 92) 35 42 (.agg #[(.int .i64 0), (.int .i64 0), (.string ⟨#[]⟩)]) 32 rfl Tryd.underlying35 infoTok rfl (by decide) (by omega) u6 l (⟨5, x8, (⟨#[]⟩ : ByteArray)⟩ : S42) [.int .i64 5, .int .i64 x8, .string (⟨#[]⟩ : ByteArray)] (fun b => b ≠ w2.heap.size) (fun _ => False) rfl rfl ?aP (fun _ hk => hk.elim) ?aF ?aO ?aB ?aS ?aL ?_; (case aP => exact k42_mkM _ _ _ (⟨5, x8, (⟨#[]⟩ : ByteArray)⟩ : S42)); (case aB => exact (by repeat (first | (with_reducible first | exact HB.out | apply below_alloc | apply pw_below_drewN | apply below_drew1) | exact HB.out))); (case aF => exact (fun b hb => Nat.ne_of_gt (Nat.lt_of_lt_of_le hlt.out hb))); (case aO => exact (by (with_reducible repeat (first | apply Kd.R_alloc | apply Kd.R_drewN | apply Kd.R_drew)); exact HO.out)); (case aS => exact (below_size (by repeat (first | (with_reducible first | exact HB.out | apply below_alloc | apply pw_below_drewN | apply below_drew1) | exact HB.out)))); (case aL => have := LM.out; omega); intro v148 w9 ho hb hg hat; have n0_ := Aside0.mk (hb); have n1_ := Aside0.mk (ho); clear HB; clear HO; have HB := n0_; have HO := n1_; clear n0_ n1_; clear ho hb hg hat))
       rw [Exit.noGoto_ret]
       go_ret3
       exact ⟨_, rfl, Kd.R_mono HO.out (fun _ _ => trivial), HB.out⟩
      ·rw [if_neg c6] at H
       cases H
     ·rw [if_neg c5] at H
      have c5b0 : (x8 == (a0.size : Int)) = false := beq_eq_false_iff_ne.mpr c5
      clear c5
      by_cases c6 : 0 ≤ x8
      ·rw [if_pos c6] at H
       by_cases c7 : x8 < (a0.size : Int)
       ·rw [if_pos c7] at H
        have hx := bt_at a0 x8
        have p4 := eq_true c6
        have q4 := eq_true c7
        have p4b : decide (0 ≤ x8) = true := decide_eq_true c6
        have q4b : decide (x8 ≤ (a0.size : Int)) = true := decide_eq_true (by omega)
        have q4c := eq_true (show x8 ≤ (a0.size : Int) by omega)
        replace H := Option.bind_eq_some_iff.mp H
        obtain ⟨c, A8, H⟩ := H
        replace H := Option.bind_eq_some_iff.mp H
        obtain ⟨⟨p1, p2, p3⟩, A9, H⟩ := H
        replace A8 := Aside0.mk A8
        replace A9 := Aside0.mk A9
        replace H := Aside0.mk H
        go_upto_region 10 with (fail)
        go_cut [9] (fun v9 wc => ∃ g : Nat, v9 = .pointer (some ⟨g, 0, none⟩) ∧ Aside0 (w.heap.size ≤ g ∧ g ≠ w2.heap.size) ∧ Aside0 (wc.cell? ⟨g, 0, none⟩ = some (.int .i64 p1) ∧ wc.cell? ⟨g, 1, none⟩ = some (.int .i64 p2) ∧ wc.cell? ⟨g, 2, none⟩ = some (.int .i64 p3)) ∧ Aside0 (Kd.R k42 42 wc w.heap.size (fun b => b ≠ w2.heap.size ∧ b ≠ g) u6 l) ∧ Aside0 (wc.heap[w2.heap.size]? = some (.cells #[.func (.func 30) #[] #[], .func (.func 31) #[] #[], .func (.func 32) #[] #[], .func (.func 33) #[] #[], .func (.func 34) #[] #[], .func (.func 35) #[] #[], .func (.func 36) #[] #[]] 51 (0, 0))) ∧ Aside0 (Below w.heap.size w wc))
        case first =>
         obtain ⟨hc0, hc7, hd⟩ := disp_calls k1 c _ p1 p2 p3 A9.out
         replace hd := Aside0.mk hd
         have HLr := Aside0.mk (HL.out.below HB.out)
         have hgl := heap_lt HG.out
         have hcell := cells_does HG.out
         obtain ⟨cn, rfl⟩ := Int.eq_ofNat_of_zero_le hc0
         have hcn : cn < 7 := by omega
         have hcn1 := eq_true hc0
         have hcn2 := eq_true hc7
         have hcn3 := eq_true hcn
         have hcn4 : decide ((cn : Int) < 7) = true := decide_eq_true hc7
         have hc2 : wr.cell? ⟨w2.heap.size, cn, none⟩ = some (.func (.func (fnOf cn)) #[] #[]) := hcell cn hcn
         have hc2a : ∀ o, (wr.alloc o).cell? ⟨w2.heap.size, cn, none⟩ = some (.func (.func (fnOf cn)) #[] #[]) := fun o => (World.cell?_alloc_lt (w := wr) (o := o) (a := ⟨w2.heap.size, cn, none⟩) hgl).trans hc2
         have hc2b : ∀ n o, ((wr.drewN n).alloc o).cell? ⟨w2.heap.size, cn, none⟩ = some (.func (.func (fnOf cn)) #[] #[]) := fun n o => (World.cell?_alloc_lt (w := wr.drewN n) (o := o) (a := ⟨w2.heap.size, cn, none⟩) hgl).trans hc2
         have hent := enter_disp cn hcn
         clear hcell
         go_region_with (first | (go_at_call 17; refine (scan_class.calls k1 (bt a0 x8) (cn : Int) _ A8.out).mono ?_; rintro e w' ⟨rfl, ⟨nd, rfl⟩⟩) | (refine (hd.out _ (LaidW.below HLr.out (by repeat (first | exact Below.refl _ _ | apply below_alloc | apply pw_below_drewN | apply below_drew1)))).mono ?_; rintro e w5 ⟨rfl, hb⟩; have hz := hb.size; first | (have F := boxed_at wr.heap.size hb rfl; obtain ⟨f0, f1, f2, g0, g1, g2⟩ := F) | (have F := boxed_n wr.heap.size hb rfl; obtain ⟨f0, f1, f2, g0, g1, g2⟩ := F) | skip))
         all_goals go_wp2
         all_goals go_meet
         all_goals first | (have E := ends_after p1 p2 p3 hs0 HG.out HO.out HB.out (by repeat (first | exact Below.refl _ _ | apply below_alloc | apply pw_below_drewN | apply below_drew1)) hb; exact ⟨_, rfl, ⟨E.1⟩, ⟨E.2.1⟩, ⟨E.2.2.1⟩, ⟨E.2.2.2.1⟩, ⟨E.2.2.2.2⟩⟩) | (have E := ends_ahead p1 p2 p3 hs0 HG.out HO.out HB.out (by repeat (first | exact Below.refl _ _ | apply below_alloc | apply pw_below_drewN | apply below_drew1)) hb f0 f1 f2; exact ⟨_, rfl, ⟨E.1⟩, ⟨E.2.1⟩, ⟨E.2.2.1⟩, ⟨E.2.2.2.1⟩, ⟨E.2.2.2.2⟩⟩)
        case rest =>
         clear HO HG HB
         obtain ⟨g, rfl, HGg, HC, HO, HG, HB⟩ := hcut
         obtain ⟨hc1, hc2, hc3⟩ := HC.out
         replace H := H.out
         dsimp only at H
         obtain ⟨Ao, co, eo⟩ := Kd.R_slice HO.out
         subst eo
         clear HC A8 A9 q4 q4b q4c hx c7
         by_cases e3 : p3 = 0
         ·have b3 : (p3 == 0) = true := beq_iff_eq.mpr e3
          have b3n : (p3 != 0) = false := bne_eq_false_iff_eq.mpr e3
          have b43 : (p3 == 43) = false := beq_eq_false_iff_ne.mpr (by omega)
          by_cases e1 : p1 = 0
          ·have b1 : (p1 == 0) = true := beq_iff_eq.mpr e1
           rw [if_neg (by omega), if_neg (by omega), if_pos e1] at H
           have H' := Aside0.mk H
           clear H e1 e3
           go_wp2
           go_roundg k1
           case measure => have := HK1.out; omega
           case rel => exact ⟨l, _, rfl, H', ⟨by have := HK1.out; omega⟩, ⟨Kd.R_mono HO.out (fun _ h => h.1)⟩, HG, HB⟩
          ·have b1 : (p1 == 0) = false := beq_eq_false_iff_ne.mpr e1
           by_cases eL : (l.length : Int) ≥ 16383
           ·have bL : decide ((16383 : Int) ≤ (l.length : Int)) = true := decide_eq_true eL
            have bL2 : decide (16383 ≤ l.length) = true := decide_eq_true (by omega)
            rw [if_pos ⟨by omega, eL⟩] at H
            simp only [Option.some.injEq, Prod.mk.injEq] at H
            obtain ⟨rfl, rfl, rfl⟩ := H
            clear e1 e3 eL
            go_wp2
            rw [Exit.noGoto_ret]
            go_ret3
            exact ⟨_, rfl, Kd.R_nil _ _ _ _ _, HB.out⟩
           ·have bL : decide ((16383 : Int) ≤ (l.length : Int)) = false := decide_eq_false eL
            have bL2 : decide (16383 ≤ l.length) = false := decide_eq_false (by omega)
            rw [if_neg (fun h => eL h.2), if_neg (by omega), if_neg e1] at H
            by_cases d1 : x8 ≤ wrap64 (x8 + p2)
            ·rw [if_pos d1] at H
             by_cases d2 : wrap64 (x8 + p2) ≤ (a0.size : Int)
             ·rw [if_pos d2] at H
              by_cases d3 : l.length < 4398046511104
              ·rw [if_pos d3] at H
               have LM := Aside0.mk d3
               have H' := Aside0.mk H
               have d1a := eq_true d1
               have d2a := eq_true d2
               have d1b : decide (x8 ≤ wrap64 (x8 + p2)) = true := decide_eq_true d1
               have d2b : decide (wrap64 (x8 + p2) ≤ (a0.size : Int)) = true := decide_eq_true d2
               clear H e1 e3 eL d1 d2 d3
               go_wp2
               have hsum : IntKind.i64.wrap (x8 + p2) = wrap64 (x8 + p2) := i64_w _
               have hgl2 := heap_lt HG.out
               have hgl3 : g < wc.heap.size := World.block_lt_of_cell? wc ⟨g, 0, none⟩ hc1
               have hfr := Aside0.mk (show ∀ k, wc.drew.heap.size ≤ k → (k ≠ w2.heap.size ∧ k ≠ g) from fun k hk => ⟨Nat.ne_of_gt (Nat.lt_of_lt_of_le hgl2 hk), Nat.ne_of_gt (Nat.lt_of_lt_of_le hgl3 hk)⟩)
               have hOd := Aside0.mk (Kd.R_drew HO.out)
               have hBd := Aside0.mk (below_drew1 HB.out)
               have hLd := Aside0.mk (show (l.length + 1) * 32 ≤ 140737488355328 by have := LM.out; omega)
               have hown := Aside0.mk HO.out.1
               go_region_law ((refine Kd.R_append_step k42 (w0 := w) (W := wc.drew) w.heap.size rfl (.tmp 71) (.tmp 83) 35 42 (.agg #[(.int .i64 0), (.int .i64 0), (.string ⟨#[]⟩)]) 32 rfl Tryd.underlying35 infoTok rfl (by decide) (by decide) (.slice Ao l.length co) l (⟨p1, x8, a0.extract x8.toNat (wrap64 (x8 + p2)).toNat⟩ : S42) [.int .i64 p1, .int .i64 x8, .string (a0.extract x8.toNat (wrap64 (x8 + p2)).toNat)] (fun b => b ≠ w2.heap.size ∧ b ≠ g) (fun _ => False) (by simp [Act.eval, Act.put]) (by simp [Act.eval, Act.put]) (k42_mkM _ _ _ (⟨p1, x8, a0.extract x8.toNat (wrap64 (x8 + p2)).toNat⟩ : S42)) (fun _ hk => hk.elim) hfr.out hOd.out hBd.out hBd.out.size hLd.out ?_; intro v148 w9 ho hb hg hat; have HO9 := Aside0.mk ho; have HB9 := Aside0.mk hb; have hn2 := Aside0.mk (show some w2.heap.size ≠ (Value.slice Ao l.length co).ownBlock from fun h => (hown.out _ h.symm).1 rfl); have hn3 := Aside0.mk (show some g ≠ (Value.slice Ao l.length co).ownBlock from fun h => (hown.out _ h.symm).2 rfl); have HG9 := Aside0.mk ((hg.block _ hgl2 hn2.out).trans HG.out); have hq2 : w9.cell? ⟨g, 1, none⟩ = some (.int .i64 p2) := (grown_cell hg hgl3 hn3.out 1).trans hc2; clear ho hb hg hat))
               all_goals clear hsum
               all_goals go_wp2
               all_goals go_roundg k1
               all_goals first | (have := HK1.out; omega) | exact ⟨_, _, rfl, H', ⟨by have := HK1.out; omega⟩, ⟨Kd.R_mono HO9.out (fun _ h => h.1)⟩, HG9, HB9⟩
              ·rw [if_neg d3] at H
               cases H
             ·rw [if_neg d2] at H
              cases H
            ·rw [if_neg d1] at H
             cases H
         ·have b3 : (p3 == 0) = false := beq_eq_false_iff_ne.mpr e3
          have b3n : (p3 != 0) = true := bne_iff_ne.mpr e3
          by_cases e43 : p3 = 43
          ·have b43 : (p3 == 43) = true := beq_iff_eq.mpr e43
           rw [if_neg (by omega), if_pos e3] at H
           simp only [Option.some.injEq, Prod.mk.injEq] at H
           obtain ⟨rfl, rfl, rfl⟩ := H
           clear e3 e43
           by_cases e1 : p1 = 0
           ·have b1 : (p1 == 0) = true := beq_iff_eq.mpr e1
            clear e1
            go_wp2
            go_quiet (fail)
            go_wp2
            rw [Exit.noGoto_ret]
            go_ret3
            exact ⟨_, rfl, Kd.R_nil _ _ _ _ _, by repeat (first | (with_reducible first | exact HB.out | apply below_alloc | apply pw_below_drewN | apply below_drew1) | exact HB.out)⟩
           ·have b1 : (p1 == 0) = false := beq_eq_false_iff_ne.mpr e1
            clear e1
            go_wp2
            go_quiet (fail)
            go_wp2
            rw [Exit.noGoto_ret]
            go_ret3
            exact ⟨_, rfl, Kd.R_nil _ _ _ _ _, by repeat (first | (with_reducible first | exact HB.out | apply below_alloc | apply pw_below_drewN | apply below_drew1) | exact HB.out)⟩
          ·have b43 : (p3 == 43) = false := beq_eq_false_iff_ne.mpr e43
           by_cases eL : (l.length : Int) ≥ 16383
           ·have bL : decide ((16383 : Int) ≤ (l.length : Int)) = true := decide_eq_true eL
            have bL2 : decide (16383 ≤ l.length) = true := decide_eq_true (by omega)
            rw [if_pos (by omega)] at H
            simp only [Option.some.injEq, Prod.mk.injEq] at H
            obtain ⟨rfl, rfl, rfl⟩ := H
            by_cases e1 : p1 = 0
            ·have b1 : (p1 == 0) = true := beq_iff_eq.mpr e1
             clear e1 e3 e43 eL
             go_wp2
             rw [Exit.noGoto_ret]
             go_ret3
             exact ⟨_, rfl, Kd.R_nil _ _ _ _ _, HB.out⟩
            ·have b1 : (p1 == 0) = false := beq_eq_false_iff_ne.mpr e1
             clear e1 e3 e43 eL
             go_wp2
             rw [Exit.noGoto_ret]
             go_ret3
             exact ⟨_, rfl, Kd.R_nil _ _ _ _ _, HB.out⟩
           ·have bL : decide ((16383 : Int) ≤ (l.length : Int)) = false := decide_eq_false eL
            have bL2 : decide (16383 ≤ l.length) = false := decide_eq_false (by omega)
            rw [if_neg (fun h => eL h.2), if_pos e3] at H
            simp only [Option.some.injEq, Prod.mk.injEq] at H
            obtain ⟨rfl, rfl, rfl⟩ := H
            by_cases e1 : p1 = 0
            ·have b1 : (p1 == 0) = true := beq_iff_eq.mpr e1
             clear e1 e3 e43 eL
             go_wp2
             go_quiet (fail)
             go_wp2
             rw [Exit.noGoto_ret]
             go_ret3
             exact ⟨_, rfl, Kd.R_nil _ _ _ _ _, by repeat (first | (with_reducible first | exact HB.out | apply below_alloc | apply pw_below_drewN | apply below_drew1) | exact HB.out)⟩
            ·have b1 : (p1 == 0) = false := beq_eq_false_iff_ne.mpr e1
             clear e1 e3 e43 eL
             go_wp2
             go_quiet (fail)
             go_wp2
             rw [Exit.noGoto_ret]
             go_ret3
             exact ⟨_, rfl, Kd.R_nil _ _ _ _ _, by repeat (first | (with_reducible first | exact HB.out | apply below_alloc | apply pw_below_drewN | apply below_drew1) | exact HB.out)⟩
       ·rw [if_neg c7] at H
        cases H
      ·rw [if_neg c6] at H
       cases H
def scan_Ident.f (k : Nat) (a0 : ByteArray) : Option (Bool) := if (a0.size : Int) ≥ 1 then (if (a0.size : Int) ≤ 255 then (if 0 < (a0.size : Int) then ((scan_class.f k (bt a0 0)).bind fun t132 => (if t132 = 2 then ((scan_row.f k a0).bind fun t133 => (some (t133 == (a0.size : Int)))) else (some false))) else (none)) else (some false)) else (some false)
set_option maxHeartbeats 8000000 in
set_option maxRecDepth 100000 in
theorem scan_Ident.calls (k : Nat) (a0 : ByteArray) (r : Bool) (w : World) (h : scan_Ident.f k a0 = some r) :
  Calls Tryd.prog 13 #[.string a0] w fun e w' => e = .returned (.bool r) ∧ Drawn0 w w' := by
 have H : (if (a0.size : Int) ≥ 1 then (if (a0.size : Int) ≤ 255 then (if 0 < (a0.size : Int) then ((scan_class.f k (bt a0 0)).bind fun t132 => (if t132 = 2 then ((scan_row.f k a0).bind fun t133 => (some (t133 == (a0.size : Int)))) else (some false))) else (none)) else (some false)) else (some false)) = some r := h
 clear h
 by_cases c2 : (a0.size : Int) ≥ 1
 ·rw [if_pos c2] at H
  have c2b0 : decide (1 ≤ (a0.size : Int)) = true := decide_eq_true c2
  have c2b1 : decide (1 ≤ a0.size) = true := decide_eq_true (by omega)
  clear c2
  by_cases c3 : (a0.size : Int) ≤ 255
  ·rw [if_pos c3] at H
   have c3b0 : decide ((a0.size : Int) ≤ 255) = true := decide_eq_true c3
   have c3b1 : decide (a0.size ≤ 255) = true := decide_eq_true (by omega)
   clear c3
   by_cases c4 : 0 < (a0.size : Int)
   ·rw [if_pos c4] at H
    have c4b0 : decide (0 < (a0.size : Int)) = true := decide_eq_true c4
    have c4b1 : decide (0 < a0.size) = true := decide_eq_true (by omega)
    clear c4
    replace H := Option.bind_eq_some_iff.mp H
    obtain ⟨t132, A60, H⟩ := H
    replace H : (if t132 = 2 then ((scan_row.f k a0).bind fun t133 => (some (t133 == (a0.size : Int)))) else (some false)) = some r := H
    have A6 := Aside0.mk A60
    clear A60
    by_cases c7 : t132 = 2
    ·rw [if_pos c7] at H
     have c7b0 : (t132 == 2) = true := beq_iff_eq.mpr c7
     have c7b1 : (t132 != 2) = false := bne_eq_false_iff_eq.mpr c7
     clear c7
     replace H := Option.bind_eq_some_iff.mp H
     obtain ⟨t133, A80, H⟩ := H
     replace H : (some (t133 == (a0.size : Int))) = some r := H
     have A8 := Aside0.mk A80
     clear A80
     obtain rfl := Option.some.inj H
     have p5 : 0 ≤ (0 : Int) := (by omega)
     have q5 : 0 < a0.size := (by have : (0 : Int) < (a0.size : Int) := of_decide_eq_true (by first | (with_reducible assumption) | assumption); omega)
     have hx5 : ∀ h : 0 < a0.size, ((a0[0]'h).toNat : Int) = bt a0 0 := bt_at a0 0
     clear p5
     have qi5 : (0 < (a0.size : Int)) = True := eq_true (of_decide_eq_true (by first | (with_reducible assumption) | assumption))
     replace q5 := eq_true q5
     go_enter Tryd.func13, Tryd.ntmps13
     go_wp2_with (first | (go_at_call 17; (with_reducible refine (scan_class.calls k (bt a0 0) t132 _ A6.out).mono ?_); rintro e w' ⟨rfl, ⟨nd, rfl⟩⟩) | (go_at_call 26; (with_reducible refine (scan_row.calls k a0 t133 _ A8.out).mono ?_); rintro e w' ⟨rfl, ⟨nd, rfl⟩⟩))
     go_ret
     exact ⟨by first | rfl | (simp; done) | (simp [*]; done), by repeat (first | exact Drawn0.refl _ | apply Drawn0.step)⟩
    ·rw [if_neg c7] at H
     have c7b0 : (t132 == 2) = false := beq_eq_false_iff_ne.mpr c7
     have c7b1 : (t132 != 2) = true := bne_iff_ne.mpr c7
     obtain rfl := Option.some.inj H
     have p5 : 0 ≤ (0 : Int) := (by omega)
     have q5 : 0 < a0.size := (by have : (0 : Int) < (a0.size : Int) := of_decide_eq_true (by first | (with_reducible assumption) | assumption); omega)
     have hx5 : ∀ h : 0 < a0.size, ((a0[0]'h).toNat : Int) = bt a0 0 := bt_at a0 0
     clear p5
     have qi5 : (0 < (a0.size : Int)) = True := eq_true (of_decide_eq_true (by first | (with_reducible assumption) | assumption))
     replace q5 := eq_true q5
     go_enter Tryd.func13, Tryd.ntmps13
     go_wp2_with (first | (go_at_call 17; (with_reducible refine (scan_class.calls k (bt a0 0) t132 _ A6.out).mono ?_); rintro e w' ⟨rfl, ⟨nd, rfl⟩⟩))
     go_ret
     exact ⟨by first | rfl | (simp; done) | (simp [*]; done), by repeat (first | exact Drawn0.refl _ | apply Drawn0.step)⟩
   ·rw [if_neg c4] at H
    exact absurd H (by simp)
  ·rw [if_neg c3] at H
   have c3b0 : decide ((a0.size : Int) ≤ 255) = false := decide_eq_false c3
   have c3b1 : decide (a0.size ≤ 255) = false := decide_eq_false (by omega)
   clear c3
   obtain rfl := Option.some.inj H
   go_enter Tryd.func13, Tryd.ntmps13
   go_wp2
   go_ret
   exact ⟨by first | rfl | (simp; done) | (simp [*]; done), by repeat (first | exact Drawn0.refl _ | apply Drawn0.step)⟩
 ·rw [if_neg c2] at H
  have c2b0 : decide (1 ≤ (a0.size : Int)) = false := decide_eq_false c2
  have c2b1 : decide (1 ≤ a0.size) = false := decide_eq_false (by omega)
  clear c2
  obtain rfl := Option.some.inj H
  go_enter Tryd.func13, Tryd.ntmps13
  go_wp2
  go_ret
  exact ⟨by first | rfl | (simp; done) | (simp [*]; done), by repeat (first | exact Drawn0.refl _ | apply Drawn0.step)⟩
def scan_Unquote.f (k : Nat) (a0 : ByteArray) : Option (ByteArray × Int) := if (a0.size : Int) > 65536 then (some ((⟨#[]⟩ : ByteArray), 2)) else ((wire_Utf8.f k a0).bind fun t134 => (if t134 ≥ 0 then (some ((⟨#[]⟩ : ByteArray), 44)) else ((scan_unquoted.f k a0).bind fun bt135 => (if bt135.2.2 = true then (if bt135.2.1 = (a0.size : Int) then (some (bt135.1, 0)) else (some ((⟨#[]⟩ : ByteArray), 42))) else (some ((⟨#[]⟩ : ByteArray), 42))))))
set_option maxHeartbeats 8000000 in
set_option maxRecDepth 100000 in
theorem scan_Unquote.calls (k : Nat) (a0 : ByteArray) (r1 : ByteArray) (r2 : Int) (w : World) (h : scan_Unquote.f k a0 = some (r1, r2)) (hL : LaidW w) :
  Calls Tryd.prog 80 #[.string a0] w fun e w' => e = .returned (.tuple #[.string r1, .int .i64 r2]) ∧ Below w.heap.size w w' := by
 have HL := Aside0.mk hL
 clear hL
 have HB := Aside0.mk (Below.refl w.heap.size w)
 have H : (if (a0.size : Int) > 65536 then (some ((⟨#[]⟩ : ByteArray), 2)) else ((wire_Utf8.f k a0).bind fun t134 => (if t134 ≥ 0 then (some ((⟨#[]⟩ : ByteArray), 44)) else ((scan_unquoted.f k a0).bind fun bt135 => (if bt135.2.2 = true then (if bt135.2.1 = (a0.size : Int) then (some (bt135.1, 0)) else (some ((⟨#[]⟩ : ByteArray), 42))) else (some ((⟨#[]⟩ : ByteArray), 42))))))) = some (r1, r2) := h
 clear h
 by_cases c2 : (a0.size : Int) > 65536
 ·rw [if_pos c2] at H
  have c2b0 : decide (65536 < (a0.size : Int)) = true := decide_eq_true c2
  have c2b1 : decide (65536 < a0.size) = true := decide_eq_true (by omega)
  clear c2
  simp only [Option.some.injEq, Prod.mk.injEq] at H
  obtain ⟨rfl, rfl⟩ := H
  go_enter Tryd.func80, Tryd.ntmps80
  go_wp2
  go_ret2
  exact ⟨by first | rfl | (simp [errW_none, errW_some] <;> rfl) | (simp [*, errW_none, errW_some] <;> rfl), by repeat (first | (with_reducible first | exact HB.out | apply below_alloc | apply pw_below_drewN | apply below_drew1) | exact HB.out)⟩
 ·rw [if_neg c2] at H
  have c2b0 : decide (65536 < (a0.size : Int)) = false := decide_eq_false c2
  have c2b1 : decide (65536 < a0.size) = false := decide_eq_false (by omega)
  clear c2
  replace H := Option.bind_eq_some_iff.mp H
  obtain ⟨t134, A30, H⟩ := H
  replace H : (if t134 ≥ 0 then (some ((⟨#[]⟩ : ByteArray), 44)) else ((scan_unquoted.f k a0).bind fun bt135 => (if bt135.2.2 = true then (if bt135.2.1 = (a0.size : Int) then (some (bt135.1, 0)) else (some ((⟨#[]⟩ : ByteArray), 42))) else (some ((⟨#[]⟩ : ByteArray), 42))))) = some (r1, r2) := H
  have A3 := Aside0.mk A30
  clear A30
  by_cases c4 : t134 ≥ 0
  ·rw [if_pos c4] at H
   have c4b0 : decide (0 ≤ t134) = true := decide_eq_true c4
   clear c4
   simp only [Option.some.injEq, Prod.mk.injEq] at H
   obtain ⟨rfl, rfl⟩ := H
   go_enter Tryd.func80, Tryd.ntmps80
   go_wp2_with (first | ((with_reducible refine gate_callee (f := 15) rfl ?_); refine goesL_ (some 11) rfl rfl Tryd.func15 (by kernel_rfl) rfl #[.string a0] rfl (by (try simp only [List.map_toArray, List.map_cons, List.map_nil]); first | done | rfl | (simp only [List.length_drop, List.length_take]; rfl)) ?_; (with_reducible refine (wire_Utf8.calls k a0 t134 _ A3.out (LaidW.below HL.out (by repeat (first | (with_reducible first | exact HB.out | apply below_alloc | apply pw_below_drewN | apply below_drew1) | exact HB.out | exact Below.refl _ _)))).mono ?_); rintro e w5 ⟨rfl, hb⟩; refine ⟨_, rfl, ?_⟩; have n0_ := Aside0.mk (below_step (by repeat (first | (with_reducible first | exact HB.out | apply below_alloc | apply pw_below_drewN | apply below_drew1) | exact HB.out)) hb); clear HB; have HB := n0_; clear n0_; (try clear hb); (try clear hb2); (try clear hk); (try clear hi)))
   go_ret2
   exact ⟨by first | rfl | (simp [errW_none, errW_some] <;> rfl) | (simp [*, errW_none, errW_some] <;> rfl), by repeat (first | (with_reducible first | exact HB.out | apply below_alloc | apply pw_below_drewN | apply below_drew1) | exact HB.out)⟩
  ·rw [if_neg c4] at H
   have c4b0 : decide (0 ≤ t134) = false := decide_eq_false c4
   clear c4
   replace H := Option.bind_eq_some_iff.mp H
   obtain ⟨⟨t135, t136, t137⟩, A60, H⟩ := H
   replace H : (if t137 = true then (if t136 = (a0.size : Int) then (some (t135, 0)) else (some ((⟨#[]⟩ : ByteArray), 42))) else (some ((⟨#[]⟩ : ByteArray), 42))) = some (r1, r2) := H
   have A6 := Aside0.mk A60
   clear A60
   by_cases c7 : t137 = true
   ·subst c7
    have H1 : (if t136 = (a0.size : Int) then (some (t135, 0)) else (some ((⟨#[]⟩ : ByteArray), 42))) = some (r1, r2) := by rw [if_pos rfl] at H; exact H
    clear H
    have H := H1
    clear H1
    by_cases c8 : t136 = (a0.size : Int)
    ·rw [if_pos c8] at H
     have c8b0 : (t136 == (a0.size : Int)) = true := beq_iff_eq.mpr c8
     have c8b1 : (t136 != (a0.size : Int)) = false := bne_eq_false_iff_eq.mpr c8
     clear c8
     simp only [Option.some.injEq, Prod.mk.injEq] at H
     obtain ⟨rfl, rfl⟩ := H
     go_enter Tryd.func80, Tryd.ntmps80
     go_wp2_with (first | ((with_reducible refine gate_callee (f := 15) rfl ?_); refine goesL_ (some 11) rfl rfl Tryd.func15 (by kernel_rfl) rfl #[.string a0] rfl (by (try simp only [List.map_toArray, List.map_cons, List.map_nil]); first | done | rfl | (simp only [List.length_drop, List.length_take]; rfl)) ?_; (with_reducible refine (wire_Utf8.calls k a0 t134 _ A3.out (LaidW.below HL.out (by repeat (first | (with_reducible first | exact HB.out | apply below_alloc | apply pw_below_drewN | apply below_drew1) | exact HB.out | exact Below.refl _ _)))).mono ?_); rintro e w9 ⟨rfl, hb⟩; refine ⟨_, rfl, ?_⟩; have n0_ := Aside0.mk (below_step (by repeat (first | (with_reducible first | exact HB.out | apply below_alloc | apply pw_below_drewN | apply below_drew1) | exact HB.out)) hb); clear HB; have HB := n0_; clear n0_; (try clear hb); (try clear hb2); (try clear hk); (try clear hi)) | ((with_reducible refine gate_callee (f := 61) rfl ?_); refine goesL_ (some 15) rfl rfl Tryd.func61 (by kernel_rfl) rfl #[.string a0] rfl (by (try simp only [List.map_toArray, List.map_cons, List.map_nil]); first | done | rfl | (simp only [List.length_drop, List.length_take]; rfl)) ?_; (with_reducible refine (scan_unquoted.calls k a0 t135 t136 true _ A6.out).mono ?_); rintro e w10 ⟨rfl, hb⟩; refine ⟨_, rfl, ?_⟩; have n0_ := Aside0.mk (below_step (by repeat (first | (with_reducible first | exact HB.out | apply below_alloc | apply pw_below_drewN | apply below_drew1) | exact HB.out)) hb); clear HB; have HB := n0_; clear n0_; (try clear hb); (try clear hb2); (try clear hk); (try clear hi)))
     go_ret2
     exact ⟨by first | rfl | (simp [errW_none, errW_some] <;> rfl) | (simp [*, errW_none, errW_some] <;> rfl), by repeat (first | (with_reducible first | exact HB.out | apply below_alloc | apply pw_below_drewN | apply below_drew1) | exact HB.out)⟩
    ·rw [if_neg c8] at H
     have c8b0 : (t136 == (a0.size : Int)) = false := beq_eq_false_iff_ne.mpr c8
     have c8b1 : (t136 != (a0.size : Int)) = true := bne_iff_ne.mpr c8
     simp only [Option.some.injEq, Prod.mk.injEq] at H
     obtain ⟨rfl, rfl⟩ := H
     go_enter Tryd.func80, Tryd.ntmps80
     go_wp2_with (first | ((with_reducible refine gate_callee (f := 15) rfl ?_); refine goesL_ (some 11) rfl rfl Tryd.func15 (by kernel_rfl) rfl #[.string a0] rfl (by (try simp only [List.map_toArray, List.map_cons, List.map_nil]); first | done | rfl | (simp only [List.length_drop, List.length_take]; rfl)) ?_; (with_reducible refine (wire_Utf8.calls k a0 t134 _ A3.out (LaidW.below HL.out (by repeat (first | (with_reducible first | exact HB.out | apply below_alloc | apply pw_below_drewN | apply below_drew1) | exact HB.out | exact Below.refl _ _)))).mono ?_); rintro e w11 ⟨rfl, hb⟩; refine ⟨_, rfl, ?_⟩; have n0_ := Aside0.mk (below_step (by repeat (first | (with_reducible first | exact HB.out | apply below_alloc | apply pw_below_drewN | apply below_drew1) | exact HB.out)) hb); clear HB; have HB := n0_; clear n0_; (try clear hb); (try clear hb2); (try clear hk); (try clear hi)) | ((with_reducible refine gate_callee (f := 61) rfl ?_); refine goesL_ (some 15) rfl rfl Tryd.func61 (by kernel_rfl) rfl #[.string a0] rfl (by (try simp only [List.map_toArray, List.map_cons, List.map_nil]); first | done | rfl | (simp only [List.length_drop, List.length_take]; rfl)) ?_; (with_reducible refine (scan_unquoted.calls k a0 t135 t136 true _ A6.out).mono ?_); rintro e w12 ⟨rfl, hb⟩; refine ⟨_, rfl, ?_⟩; have n0_ := Aside0.mk (below_step (by repeat (first | (with_reducible first | exact HB.out | apply below_alloc | apply pw_below_drewN | apply below_drew1) | exact HB.out)) hb); clear HB; have HB := n0_; clear n0_; (try clear hb); (try clear hb2); (try clear hk); (try clear hi)))
     go_ret2
     exact ⟨by first | rfl | (simp [errW_none, errW_some] <;> rfl) | (simp [*, errW_none, errW_some] <;> rfl), by repeat (first | (with_reducible first | exact HB.out | apply below_alloc | apply pw_below_drewN | apply below_drew1) | exact HB.out)⟩
   ·replace c7 := Bool.eq_false_iff.mpr c7
    subst c7
    have H1 : (some ((⟨#[]⟩ : ByteArray), 42)) = some (r1, r2) := by rw [if_neg (show ¬ (false = true) by decide)] at H; exact H
    clear H
    have H := H1
    clear H1
    simp only [Option.some.injEq, Prod.mk.injEq] at H
    obtain ⟨rfl, rfl⟩ := H
    go_enter Tryd.func80, Tryd.ntmps80
    go_wp2_with (first | ((with_reducible refine gate_callee (f := 15) rfl ?_); refine goesL_ (some 11) rfl rfl Tryd.func15 (by kernel_rfl) rfl #[.string a0] rfl (by (try simp only [List.map_toArray, List.map_cons, List.map_nil]); first | done | rfl | (simp only [List.length_drop, List.length_take]; rfl)) ?_; (with_reducible refine (wire_Utf8.calls k a0 t134 _ A3.out (LaidW.below HL.out (by repeat (first | (with_reducible first | exact HB.out | apply below_alloc | apply pw_below_drewN | apply below_drew1) | exact HB.out | exact Below.refl _ _)))).mono ?_); rintro e w13 ⟨rfl, hb⟩; refine ⟨_, rfl, ?_⟩; have n0_ := Aside0.mk (below_step (by repeat (first | (with_reducible first | exact HB.out | apply below_alloc | apply pw_below_drewN | apply below_drew1) | exact HB.out)) hb); clear HB; have HB := n0_; clear n0_; (try clear hb); (try clear hb2); (try clear hk); (try clear hi)) | ((with_reducible refine gate_callee (f := 61) rfl ?_); refine goesL_ (some 15) rfl rfl Tryd.func61 (by kernel_rfl) rfl #[.string a0] rfl (by (try simp only [List.map_toArray, List.map_cons, List.map_nil]); first | done | rfl | (simp only [List.length_drop, List.length_take]; rfl)) ?_; (with_reducible refine (scan_unquoted.calls k a0 t135 t136 false _ A6.out).mono ?_); rintro e w14 ⟨rfl, hb⟩; refine ⟨_, rfl, ?_⟩; have n0_ := Aside0.mk (below_step (by repeat (first | (with_reducible first | exact HB.out | apply below_alloc | apply pw_below_drewN | apply below_drew1) | exact HB.out)) hb); clear HB; have HB := n0_; clear n0_; (try clear hb); (try clear hb2); (try clear hk); (try clear hi)))
    go_ret2
    exact ⟨by first | rfl | (simp [errW_none, errW_some] <;> rfl) | (simp [*, errW_none, errW_some] <;> rfl), by repeat (first | (with_reducible first | exact HB.out | apply below_alloc | apply pw_below_drewN | apply below_drew1) | exact HB.out)⟩
def scan_Number.f (k : Nat) (a0 : ByteArray) : Option (Int × Int) := if (a0.size : Int) > 65536 then (some (0, 2)) else ((scan_worth.f k a0).bind fun bt138 => (if bt138.2 = true then (some (bt138.1, 0)) else (some (0, 41))))
set_option maxHeartbeats 8000000 in
set_option maxRecDepth 100000 in
theorem scan_Number.calls (k : Nat) (a0 : ByteArray) (r1 : Int) (r2 : Int) (w : World) (h : scan_Number.f k a0 = some (r1, r2)) :
  Calls Tryd.prog 88 #[.string a0] w fun e w' => e = .returned (.tuple #[.int .i64 r1, .int .i64 r2]) ∧ Drawn0 w w' := by
 have H : (if (a0.size : Int) > 65536 then (some (0, 2)) else ((scan_worth.f k a0).bind fun bt138 => (if bt138.2 = true then (some (bt138.1, 0)) else (some (0, 41))))) = some (r1, r2) := h
 clear h
 by_cases c2 : (a0.size : Int) > 65536
 ·rw [if_pos c2] at H
  have c2b0 : decide (65536 < (a0.size : Int)) = true := decide_eq_true c2
  have c2b1 : decide (65536 < a0.size) = true := decide_eq_true (by omega)
  clear c2
  simp only [Option.some.injEq, Prod.mk.injEq] at H
  obtain ⟨rfl, rfl⟩ := H
  go_enter Tryd.func88, Tryd.ntmps88
  go_wp2
  go_ret2
  exact ⟨by first | rfl | (simp; done) | (simp [*]; done), by repeat (first | exact Drawn0.refl _ | apply Drawn0.step)⟩
 ·rw [if_neg c2] at H
  have c2b0 : decide (65536 < (a0.size : Int)) = false := decide_eq_false c2
  have c2b1 : decide (65536 < a0.size) = false := decide_eq_false (by omega)
  clear c2
  replace H := Option.bind_eq_some_iff.mp H
  obtain ⟨⟨t138, t139⟩, A30, H⟩ := H
  replace H : (if t139 = true then (some (t138, 0)) else (some (0, 41))) = some (r1, r2) := H
  have A3 := Aside0.mk A30
  clear A30
  by_cases c4 : t139 = true
  ·subst c4
   have H1 : (some (t138, 0)) = some (r1, r2) := by rw [if_pos rfl] at H; exact H
   clear H
   have H := H1
   clear H1
   simp only [Option.some.injEq, Prod.mk.injEq] at H
   obtain ⟨rfl, rfl⟩ := H
   go_enter Tryd.func88, Tryd.ntmps88
   go_wp2_with (first | ((with_reducible refine gate_callee (f := 60) rfl ?_); refine goesL_ (some 11) rfl rfl Tryd.func60 (by kernel_rfl) rfl #[.string a0] rfl (by (try simp only [List.map_toArray, List.map_cons, List.map_nil]); first | done | rfl | (simp only [List.length_drop, List.length_take]; rfl)) ?_; (with_reducible refine (scan_worth.calls k a0 t138 true _ A3.out).mono ?_); rintro e w' ⟨rfl, ⟨nd, rfl⟩⟩; refine ⟨_, rfl, ?_⟩))
   go_ret2
   exact ⟨by first | rfl | (simp; done) | (simp [*]; done), by repeat (first | exact Drawn0.refl _ | apply Drawn0.step)⟩
  ·replace c4 := Bool.eq_false_iff.mpr c4
   subst c4
   have H1 : (some (0, 41)) = some (r1, r2) := by rw [if_neg (show ¬ (false = true) by decide)] at H; exact H
   clear H
   have H := H1
   clear H1
   simp only [Option.some.injEq, Prod.mk.injEq] at H
   obtain ⟨rfl, rfl⟩ := H
   go_enter Tryd.func88, Tryd.ntmps88
   go_wp2_with (first | ((with_reducible refine gate_callee (f := 60) rfl ?_); refine goesL_ (some 11) rfl rfl Tryd.func60 (by kernel_rfl) rfl #[.string a0] rfl (by (try simp only [List.map_toArray, List.map_cons, List.map_nil]); first | done | rfl | (simp only [List.length_drop, List.length_take]; rfl)) ?_; (with_reducible refine (scan_worth.calls k a0 t138 false _ A3.out).mono ?_); rintro e w' ⟨rfl, ⟨nd, rfl⟩⟩; refine ⟨_, rfl, ?_⟩))
   go_ret2
   exact ⟨by first | rfl | (simp; done) | (simp [*]; done), by repeat (first | exact Drawn0.refl _ | apply Drawn0.step)⟩
def parse_Word.f (k : Nat) (a0 : ByteArray) : Option (Bool) := (scan_Ident.f k a0).bind fun t140 => (some t140)
set_option maxHeartbeats 8000000 in
set_option maxRecDepth 100000 in
theorem parse_Word.calls (k : Nat) (a0 : ByteArray) (r : Bool) (w : World) (h : parse_Word.f k a0 = some r) :
  Calls Tryd.prog 7 #[.string a0] w fun e w' => e = .returned (.bool r) ∧ Drawn0 w w' := by
 have H : ((scan_Ident.f k a0).bind fun t140 => (some t140)) = some r := h
 clear h
 replace H := Option.bind_eq_some_iff.mp H
 obtain ⟨t140, A20, H⟩ := H
 replace H : (some t140) = some r := H
 have A2 := Aside0.mk A20
 clear A20
 obtain rfl := Option.some.inj H
 go_enter Tryd.func7, Tryd.ntmps7
 go_wp2_with (first | ((with_reducible refine gate_callee (f := 13) rfl ?_); refine goesL_ (some 4) rfl rfl Tryd.func13 (by kernel_rfl) rfl #[.string a0] rfl (by (try simp only [List.map_toArray, List.map_cons, List.map_nil]); first | done | rfl | (simp only [List.length_drop, List.length_take]; rfl)) ?_; (with_reducible refine (scan_Ident.calls k a0 t140 _ A2.out).mono ?_); rintro e w' ⟨rfl, ⟨nd, rfl⟩⟩; refine ⟨_, rfl, ?_⟩))
 go_ret
 exact ⟨by first | rfl | (simp; done) | (simp [*]; done), by repeat (first | exact Drawn0.refl _ | apply Drawn0.step)⟩
def parse_barred.f (a0 : ByteArray) : Option (Bool) := if a0.toList = ([111, 112, 116, 105, 111, 110] : List UInt8) then (some true) else (if a0.toList = ([103, 114, 111, 117, 112] : List UInt8) then (some true) else (if a0.toList = ([111, 112, 116, 105, 111, 110, 97, 108] : List UInt8) then (some true) else (if a0.toList = ([114, 101, 112, 101, 97, 116, 101, 100] : List UInt8) then (some true) else (if a0.toList = ([114, 101, 113, 117, 105, 114, 101, 100] : List UInt8) then (some true) else (if a0.toList = ([111, 110, 101, 111, 102] : List UInt8) then (some true) else (if a0.toList = ([109, 101, 115, 115, 97, 103, 101] : List UInt8) then (some true) else (if a0.toList = ([101, 110, 117, 109] : List UInt8) then (some true) else (if a0.toList = ([114, 101, 115, 101, 114, 118, 101, 100] : List UInt8) then (some true) else (some false)))))))))
set_option maxHeartbeats 8000000 in
set_option maxRecDepth 100000 in
theorem parse_barred.calls (a0 : ByteArray) (r : Bool) (w : World) (h : parse_barred.f a0 = some r) :
  Calls Tryd.prog 76 #[.string a0] w fun e w' => e = .returned (.bool r) ∧ Drawn0 w w' := by
 have H : (if a0.toList = ([111, 112, 116, 105, 111, 110] : List UInt8) then (some true) else (if a0.toList = ([103, 114, 111, 117, 112] : List UInt8) then (some true) else (if a0.toList = ([111, 112, 116, 105, 111, 110, 97, 108] : List UInt8) then (some true) else (if a0.toList = ([114, 101, 112, 101, 97, 116, 101, 100] : List UInt8) then (some true) else (if a0.toList = ([114, 101, 113, 117, 105, 114, 101, 100] : List UInt8) then (some true) else (if a0.toList = ([111, 110, 101, 111, 102] : List UInt8) then (some true) else (if a0.toList = ([109, 101, 115, 115, 97, 103, 101] : List UInt8) then (some true) else (if a0.toList = ([101, 110, 117, 109] : List UInt8) then (some true) else (if a0.toList = ([114, 101, 115, 101, 114, 118, 101, 100] : List UInt8) then (some true) else (some false)))))))))) = some r := h
 clear h
 by_cases c2 : a0.toList = ([111, 112, 116, 105, 111, 110] : List UInt8)
 ·rw [if_pos c2] at H
  have c2b0 : (a0.toList == ([111, 112, 116, 105, 111, 110] : List UInt8)) = true := beq_iff_eq.mpr c2
  have c2b1 : (a0.toList != ([111, 112, 116, 105, 111, 110] : List UInt8)) = false := bne_eq_false_iff_eq.mpr c2
  clear c2
  obtain rfl := Option.some.inj H
  go_enter Tryd.func76, Tryd.ntmps76
  go_wp2
  go_ret
  exact ⟨by first | rfl | (simp; done) | (simp [*]; done), by repeat (first | exact Drawn0.refl _ | apply Drawn0.step)⟩
 ·rw [if_neg c2] at H
  have c2b0 : (a0.toList == ([111, 112, 116, 105, 111, 110] : List UInt8)) = false := beq_eq_false_iff_ne.mpr c2
  have c2b1 : (a0.toList != ([111, 112, 116, 105, 111, 110] : List UInt8)) = true := bne_iff_ne.mpr c2
  by_cases c3 : a0.toList = ([103, 114, 111, 117, 112] : List UInt8)
  ·rw [if_pos c3] at H
   have c3b0 : (a0.toList == ([103, 114, 111, 117, 112] : List UInt8)) = true := beq_iff_eq.mpr c3
   have c3b1 : (a0.toList != ([103, 114, 111, 117, 112] : List UInt8)) = false := bne_eq_false_iff_eq.mpr c3
   clear c3
   obtain rfl := Option.some.inj H
   go_enter Tryd.func76, Tryd.ntmps76
   go_wp2
   go_ret
   exact ⟨by first | rfl | (simp; done) | (simp [*]; done), by repeat (first | exact Drawn0.refl _ | apply Drawn0.step)⟩
  ·rw [if_neg c3] at H
   have c3b0 : (a0.toList == ([103, 114, 111, 117, 112] : List UInt8)) = false := beq_eq_false_iff_ne.mpr c3
   have c3b1 : (a0.toList != ([103, 114, 111, 117, 112] : List UInt8)) = true := bne_iff_ne.mpr c3
   by_cases c4 : a0.toList = ([111, 112, 116, 105, 111, 110, 97, 108] : List UInt8)
   ·rw [if_pos c4] at H
    have c4b0 : (a0.toList == ([111, 112, 116, 105, 111, 110, 97, 108] : List UInt8)) = true := beq_iff_eq.mpr c4
    have c4b1 : (a0.toList != ([111, 112, 116, 105, 111, 110, 97, 108] : List UInt8)) = false := bne_eq_false_iff_eq.mpr c4
    clear c4
    obtain rfl := Option.some.inj H
    go_enter Tryd.func76, Tryd.ntmps76
    go_wp2
    go_ret
    exact ⟨by first | rfl | (simp; done) | (simp [*]; done), by repeat (first | exact Drawn0.refl _ | apply Drawn0.step)⟩
   ·rw [if_neg c4] at H
    have c4b0 : (a0.toList == ([111, 112, 116, 105, 111, 110, 97, 108] : List UInt8)) = false := beq_eq_false_iff_ne.mpr c4
    have c4b1 : (a0.toList != ([111, 112, 116, 105, 111, 110, 97, 108] : List UInt8)) = true := bne_iff_ne.mpr c4
    by_cases c5 : a0.toList = ([114, 101, 112, 101, 97, 116, 101, 100] : List UInt8)
    ·rw [if_pos c5] at H
     have c5b0 : (a0.toList == ([114, 101, 112, 101, 97, 116, 101, 100] : List UInt8)) = true := beq_iff_eq.mpr c5
     have c5b1 : (a0.toList != ([114, 101, 112, 101, 97, 116, 101, 100] : List UInt8)) = false := bne_eq_false_iff_eq.mpr c5
     clear c5
     obtain rfl := Option.some.inj H
     go_enter Tryd.func76, Tryd.ntmps76
     go_wp2
     go_ret
     exact ⟨by first | rfl | (simp; done) | (simp [*]; done), by repeat (first | exact Drawn0.refl _ | apply Drawn0.step)⟩
    ·rw [if_neg c5] at H
     have c5b0 : (a0.toList == ([114, 101, 112, 101, 97, 116, 101, 100] : List UInt8)) = false := beq_eq_false_iff_ne.mpr c5
     have c5b1 : (a0.toList != ([114, 101, 112, 101, 97, 116, 101, 100] : List UInt8)) = true := bne_iff_ne.mpr c5
     by_cases c6 : a0.toList = ([114, 101, 113, 117, 105, 114, 101, 100] : List UInt8)
     ·rw [if_pos c6] at H
      have c6b0 : (a0.toList == ([114, 101, 113, 117, 105, 114, 101, 100] : List UInt8)) = true := beq_iff_eq.mpr c6
      have c6b1 : (a0.toList != ([114, 101, 113, 117, 105, 114, 101, 100] : List UInt8)) = false := bne_eq_false_iff_eq.mpr c6
      clear c6
      obtain rfl := Option.some.inj H
      go_enter Tryd.func76, Tryd.ntmps76
      go_wp2
      go_ret
      exact ⟨by first | rfl | (simp; done) | (simp [*]; done), by repeat (first | exact Drawn0.refl _ | apply Drawn0.step)⟩
     ·rw [if_neg c6] at H
      have c6b0 : (a0.toList == ([114, 101, 113, 117, 105, 114, 101, 100] : List UInt8)) = false := beq_eq_false_iff_ne.mpr c6
      have c6b1 : (a0.toList != ([114, 101, 113, 117, 105, 114, 101, 100] : List UInt8)) = true := bne_iff_ne.mpr c6
      by_cases c7 : a0.toList = ([111, 110, 101, 111, 102] : List UInt8)
      ·rw [if_pos c7] at H
       have c7b0 : (a0.toList == ([111, 110, 101, 111, 102] : List UInt8)) = true := beq_iff_eq.mpr c7
       have c7b1 : (a0.toList != ([111, 110, 101, 111, 102] : List UInt8)) = false := bne_eq_false_iff_eq.mpr c7
       clear c7
       obtain rfl := Option.some.inj H
       go_enter Tryd.func76, Tryd.ntmps76
       go_wp2
       go_ret
       exact ⟨by first | rfl | (simp; done) | (simp [*]; done), by repeat (first | exact Drawn0.refl _ | apply Drawn0.step)⟩
      ·rw [if_neg c7] at H
       have c7b0 : (a0.toList == ([111, 110, 101, 111, 102] : List UInt8)) = false := beq_eq_false_iff_ne.mpr c7
       have c7b1 : (a0.toList != ([111, 110, 101, 111, 102] : List UInt8)) = true := bne_iff_ne.mpr c7
       by_cases c8 : a0.toList = ([109, 101, 115, 115, 97, 103, 101] : List UInt8)
       ·rw [if_pos c8] at H
        have c8b0 : (a0.toList == ([109, 101, 115, 115, 97, 103, 101] : List UInt8)) = true := beq_iff_eq.mpr c8
        have c8b1 : (a0.toList != ([109, 101, 115, 115, 97, 103, 101] : List UInt8)) = false := bne_eq_false_iff_eq.mpr c8
        clear c8
        obtain rfl := Option.some.inj H
        go_enter Tryd.func76, Tryd.ntmps76
        go_wp2
        go_ret
        exact ⟨by first | rfl | (simp; done) | (simp [*]; done), by repeat (first | exact Drawn0.refl _ | apply Drawn0.step)⟩
       ·rw [if_neg c8] at H
        have c8b0 : (a0.toList == ([109, 101, 115, 115, 97, 103, 101] : List UInt8)) = false := beq_eq_false_iff_ne.mpr c8
        have c8b1 : (a0.toList != ([109, 101, 115, 115, 97, 103, 101] : List UInt8)) = true := bne_iff_ne.mpr c8
        by_cases c9 : a0.toList = ([101, 110, 117, 109] : List UInt8)
        ·rw [if_pos c9] at H
         have c9b0 : (a0.toList == ([101, 110, 117, 109] : List UInt8)) = true := beq_iff_eq.mpr c9
         have c9b1 : (a0.toList != ([101, 110, 117, 109] : List UInt8)) = false := bne_eq_false_iff_eq.mpr c9
         clear c9
         obtain rfl := Option.some.inj H
         go_enter Tryd.func76, Tryd.ntmps76
         go_wp2
         go_ret
         exact ⟨by first | rfl | (simp; done) | (simp [*]; done), by repeat (first | exact Drawn0.refl _ | apply Drawn0.step)⟩
        ·rw [if_neg c9] at H
         have c9b0 : (a0.toList == ([101, 110, 117, 109] : List UInt8)) = false := beq_eq_false_iff_ne.mpr c9
         have c9b1 : (a0.toList != ([101, 110, 117, 109] : List UInt8)) = true := bne_iff_ne.mpr c9
         by_cases c10 : a0.toList = ([114, 101, 115, 101, 114, 118, 101, 100] : List UInt8)
         ·rw [if_pos c10] at H
          have c10b0 : (a0.toList == ([114, 101, 115, 101, 114, 118, 101, 100] : List UInt8)) = true := beq_iff_eq.mpr c10
          have c10b1 : (a0.toList != ([114, 101, 115, 101, 114, 118, 101, 100] : List UInt8)) = false := bne_eq_false_iff_eq.mpr c10
          clear c10
          obtain rfl := Option.some.inj H
          go_enter Tryd.func76, Tryd.ntmps76
          go_wp2
          go_ret
          exact ⟨by first | rfl | (simp; done) | (simp [*]; done), by repeat (first | exact Drawn0.refl _ | apply Drawn0.step)⟩
         ·rw [if_neg c10] at H
          have c10b0 : (a0.toList == ([114, 101, 115, 101, 114, 118, 101, 100] : List UInt8)) = false := beq_eq_false_iff_ne.mpr c10
          have c10b1 : (a0.toList != ([114, 101, 115, 101, 114, 118, 101, 100] : List UInt8)) = true := bne_iff_ne.mpr c10
          obtain rfl := Option.some.inj H
          go_enter Tryd.func76, Tryd.ntmps76
          go_wp2
          go_ret
          exact ⟨by first | rfl | (simp; done) | (simp [*]; done), by repeat (first | exact Drawn0.refl _ | apply Drawn0.step)⟩
def sigillaw5_SameTexts.l0 : Nat → List ByteArray → List ByteArray → Int → Option (Bool)
 | 0, _, _, _ => none
 | k + 1, x0, x1, x5 => if x5 < (x0.length : Int) then (if 0 ≤ x5 then (if x5 < (x1.length : Int) then (if (rdOf ByteArray.empty x0 x5).toList = (rdOf ByteArray.empty x1 x5).toList then (sigillaw5_SameTexts.l0 k x0 x1 (wrap64 (x5 + 1))) else (some false)) else (none)) else (none)) else (some true)
def sigillaw5_SameTexts.f (k : Nat) (l0 : List ByteArray) (l1 : List ByteArray) : Option (Bool) := if (l0.length : Int) = (l1.length : Int) then (sigillaw5_SameTexts.l0 k l0 l1 0) else (some false)
set_option maxHeartbeats 8000000 in
set_option maxRecDepth 100000 in
theorem sigillaw5_SameTexts.calls (k : Nat) (A0 : Option Addr) (c0 : Nat) (l0 : List ByteArray) (A1 : Option Addr) (c1 : Nat) (l1 : List ByteArray) (r : Bool) (w : World) (hr0 : Kd.C Kd.string w A0 l0.length l0) (hc0 : l0.length ≤ c0) (hr1 : Kd.C Kd.string w A1 l1.length l1) (hc1 : l1.length ≤ c1) (h : sigillaw5_SameTexts.f k l0 l1 = some r) :
  Calls Tryd.prog 18 #[.slice A0 l0.length c0, .slice A1 l1.length c1] w fun e w' => e = .returned (.bool r) ∧ Drawn0 w w' := by
 have HR0 := Aside0.mk hr0
 have HC0 := Aside0.mk hc0
 clear hr0 hc0
 have HR1 := Aside0.mk hr1
 have HC1 := Aside0.mk hc1
 clear hr1 hc1
 have H : (if (l0.length : Int) = (l1.length : Int) then (sigillaw5_SameTexts.l0 k l0 l1 0) else (some false)) = some r := h
 clear h
 by_cases c3 : (l0.length : Int) = (l1.length : Int)
 ·rw [if_pos c3] at H
  have c3b0 : ((l0.length : Int) == (l1.length : Int)) = true := beq_iff_eq.mpr c3
  have c3b1 : ((l0.length : Int) != (l1.length : Int)) = false := bne_eq_false_iff_eq.mpr c3
  have c3b2 : (l0.length == l1.length) = true := by first | simpa using c3 | (simp at c3 ⊢; omega)
  clear c3
  have H' := Aside0.mk H
  clear H
  go_enter Tryd.func18, Tryd.ntmps18
  go_wp2
  repeat (go_quiet (fail); try go_wp2)
  go_loopg [5] k (fun kq v5 w' => ∃ (x5_1 : Int), v5 = .int .i64 x5_1 ∧ Aside0 (sigillaw5_SameTexts.l0 kq l0 l1 x5_1 = some r) ∧ Aside0 (kq ≤ k) ∧ Drawn0 w w')
  case atStart => exact ⟨(0), (by first | rfl | (simp; done) | (simp [*]; done)), H', ⟨Nat.le_refl _⟩, by repeat (first | exact Drawn0.refl _ | apply Drawn0.step)⟩
  case round =>
   clear H'
   obtain ⟨x5_1, rfl, HA, HK1, ⟨m1, rfl⟩⟩ := hrel
   cases gk with
   | zero => exact absurd HA.out (by simp [sigillaw5_SameTexts.l0])
   | succ k1 =>
    have H := HA.out
    clear HA
    simp only [sigillaw5_SameTexts.l0] at H
    by_cases c4 : x5_1 < (l0.length : Int)
    ·rw [if_pos c4] at H
     have c4b0 : decide (x5_1 < (l0.length : Int)) = true := decide_eq_true c4
     clear c4
     by_cases c5 : 0 ≤ x5_1
     ·rw [if_pos c5] at H
      have c5b0 : decide (0 ≤ x5_1) = true := decide_eq_true c5
      clear c5
      by_cases c6 : x5_1 < (l1.length : Int)
      ·rw [if_pos c6] at H
       have c6b0 : decide (x5_1 < (l1.length : Int)) = true := decide_eq_true c6
       clear c6
       by_cases c7 : (rdOf ByteArray.empty l0 x5_1).toList = (rdOf ByteArray.empty l1 x5_1).toList
       ·rw [if_pos c7] at H
        have c7b0 : ((rdOf ByteArray.empty l0 x5_1).toList == (rdOf ByteArray.empty l1 x5_1).toList) = true := beq_iff_eq.mpr c7
        have c7b1 : ((rdOf ByteArray.empty l0 x5_1).toList != (rdOf ByteArray.empty l1 x5_1).toList) = false := bne_eq_false_iff_eq.mpr c7
        clear c7
        have H' := Aside0.mk H
        clear H
        have p145 : 0 ≤ (x5_1 : Int) := of_decide_eq_true (by first | (with_reducible assumption) | assumption)
        have q145 : x5_1 < (l0.length : Int) := of_decide_eq_true (by first | (with_reducible assumption) | assumption)
        obtain ⟨ad145, e145, hx145_0⟩ := Kd.at_string HR0.out x5_1 p145 q145
        cases e145
        replace p145 := eq_true p145
        replace q145 := eq_true q145
        have p146 : 0 ≤ (x5_1 : Int) := of_decide_eq_true (by first | (with_reducible assumption) | assumption)
        have q146 : x5_1 < (l1.length : Int) := of_decide_eq_true (by first | (with_reducible assumption) | assumption)
        obtain ⟨ad146, e146, hx146_0⟩ := Kd.at_string HR1.out x5_1 p146 q146
        cases e146
        replace p146 := eq_true p146
        replace q146 := eq_true q146
        go_wp2
        repeat (go_quiet (fail); try go_wp2)
        go_roundg k1
        case measure => have := HK1.out; omega
        case rel => exact ⟨(wrap64 (x5_1 + 1)), (by first | rfl | (simp; done) | (simp [*]; done)), H', ⟨by have := HK1.out; omega⟩, by repeat (first | exact Drawn0.refl _ | apply Drawn0.step)⟩
       ·rw [if_neg c7] at H
        have c7b0 : ((rdOf ByteArray.empty l0 x5_1).toList == (rdOf ByteArray.empty l1 x5_1).toList) = false := beq_eq_false_iff_ne.mpr c7
        have c7b1 : ((rdOf ByteArray.empty l0 x5_1).toList != (rdOf ByteArray.empty l1 x5_1).toList) = true := bne_iff_ne.mpr c7
        obtain rfl := Option.some.inj H
        have p145 : 0 ≤ (x5_1 : Int) := of_decide_eq_true (by first | (with_reducible assumption) | assumption)
        have q145 : x5_1 < (l0.length : Int) := of_decide_eq_true (by first | (with_reducible assumption) | assumption)
        obtain ⟨ad145, e145, hx145_0⟩ := Kd.at_string HR0.out x5_1 p145 q145
        cases e145
        replace p145 := eq_true p145
        replace q145 := eq_true q145
        have p146 : 0 ≤ (x5_1 : Int) := of_decide_eq_true (by first | (with_reducible assumption) | assumption)
        have q146 : x5_1 < (l1.length : Int) := of_decide_eq_true (by first | (with_reducible assumption) | assumption)
        obtain ⟨ad146, e146, hx146_0⟩ := Kd.at_string HR1.out x5_1 p146 q146
        cases e146
        replace p146 := eq_true p146
        replace q146 := eq_true q146
        go_wp2
        repeat (go_quiet (fail); try go_wp2)
        go_ret
        exact ⟨by first | rfl | (simp; done) | (simp [*]; done), by repeat (first | exact Drawn0.refl _ | apply Drawn0.step)⟩
      ·rw [if_neg c6] at H
       exact absurd H (by simp)
     ·rw [if_neg c5] at H
      exact absurd H (by simp)
    ·rw [if_neg c4] at H
     have c4b0 : decide (x5_1 < (l0.length : Int)) = false := decide_eq_false c4
     clear c4
     obtain rfl := Option.some.inj H
     go_wp2
     repeat (go_quiet (fail); try go_wp2)
     go_ret
     exact ⟨by first | rfl | (simp; done) | (simp [*]; done), by repeat (first | exact Drawn0.refl _ | apply Drawn0.step)⟩
 ·rw [if_neg c3] at H
  have c3b0 : ((l0.length : Int) == (l1.length : Int)) = false := beq_eq_false_iff_ne.mpr c3
  have c3b1 : ((l0.length : Int) != (l1.length : Int)) = true := bne_iff_ne.mpr c3
  have c3b2 : (l0.length == l1.length) = false := by first | simpa using c3 | (simp at c3 ⊢; omega)
  obtain rfl := Option.some.inj H
  go_enter Tryd.func18, Tryd.ntmps18
  go_wp2
  repeat (go_quiet (fail); try go_wp2)
  go_ret
  exact ⟨by first | rfl | (simp; done) | (simp [*]; done), by repeat (first | exact Drawn0.refl _ | apply Drawn0.step)⟩
def sigillaw5_sameRows.l0 : Nat → List (S116) → List (S116) → Int → Option (Bool)
 | 0, _, _, _ => none
 | k + 1, x0, x1, x5 => if x5 < (x0.length : Int) then (if 0 ≤ x5 then (if x5 < (x1.length : Int) then (if (!(((rd_T116 x0 x5).f0) == ((rd_T116 x1 x5).f0)) || (!(((rd_T116 x0 x5).f1) == ((rd_T116 x1 x5).f1)))) = true then (some false) else (sigillaw5_sameRows.l0 k x0 x1 (wrap64 (x5 + 1)))) else (none)) else (none)) else (some true)
def sigillaw5_sameRows.f (k : Nat) (l0 : List (S116)) (l1 : List (S116)) : Option (Bool) := if (l0.length : Int) = (l1.length : Int) then (sigillaw5_sameRows.l0 k l0 l1 0) else (some false)
set_option maxHeartbeats 8000000 in
set_option maxRecDepth 100000 in
theorem sigillaw5_sameRows.calls (k : Nat) (A0 : Option Addr) (c0 : Nat) (l0 : List (S116)) (A1 : Option Addr) (c1 : Nat) (l1 : List (S116)) (r : Bool) (w : World) (hr0 : Kd.C k116 w A0 l0.length l0) (hc0 : l0.length ≤ c0) (hr1 : Kd.C k116 w A1 l1.length l1) (hc1 : l1.length ≤ c1) (h : sigillaw5_sameRows.f k l0 l1 = some r) :
  Calls Tryd.prog 38 #[.slice A0 l0.length c0, .slice A1 l1.length c1] w fun e w' => e = .returned (.bool r) ∧ Drawn0 w w' := by
 have hu116 := Tryd.underlying116
 have HR0 := Aside0.mk hr0
 have HC0 := Aside0.mk hc0
 clear hr0 hc0
 have HR1 := Aside0.mk hr1
 have HC1 := Aside0.mk hc1
 clear hr1 hc1
 have H : (if (l0.length : Int) = (l1.length : Int) then (sigillaw5_sameRows.l0 k l0 l1 0) else (some false)) = some r := h
 clear h
 by_cases c3 : (l0.length : Int) = (l1.length : Int)
 ·rw [if_pos c3] at H
  have c3b0 : ((l0.length : Int) == (l1.length : Int)) = true := beq_iff_eq.mpr c3
  have c3b1 : ((l0.length : Int) != (l1.length : Int)) = false := bne_eq_false_iff_eq.mpr c3
  have c3b2 : (l0.length == l1.length) = true := by first | simpa using c3 | (simp at c3 ⊢; omega)
  clear c3
  have H' := Aside0.mk H
  clear H
  go_enter Tryd.func38, Tryd.ntmps38
  go_wp2
  repeat (go_quiet (fail); try go_wp2)
  go_loopg [5] k (fun kq v5 w' => ∃ (x5_1 : Int), v5 = .int .i64 x5_1 ∧ Aside0 (sigillaw5_sameRows.l0 kq l0 l1 x5_1 = some r) ∧ Aside0 (kq ≤ k) ∧ Drawn0 w w')
  case atStart => exact ⟨(0), (by first | rfl | (simp; done) | (simp [*]; done)), H', ⟨Nat.le_refl _⟩, by repeat (first | exact Drawn0.refl _ | apply Drawn0.step)⟩
  case round =>
   clear H'
   obtain ⟨x5_1, rfl, HA, HK1, ⟨m1, rfl⟩⟩ := hrel
   cases gk with
   | zero => exact absurd HA.out (by simp [sigillaw5_sameRows.l0])
   | succ k1 =>
    have H := HA.out
    clear HA
    simp only [sigillaw5_sameRows.l0] at H
    by_cases c4 : x5_1 < (l0.length : Int)
    ·rw [if_pos c4] at H
     have c4b0 : decide (x5_1 < (l0.length : Int)) = true := decide_eq_true c4
     clear c4
     by_cases c5 : 0 ≤ x5_1
     ·rw [if_pos c5] at H
      have c5b0 : decide (0 ≤ x5_1) = true := decide_eq_true c5
      clear c5
      by_cases c6 : x5_1 < (l1.length : Int)
      ·rw [if_pos c6] at H
       have c6b0 : decide (x5_1 < (l1.length : Int)) = true := decide_eq_true c6
       clear c6
       by_cases c7 : (!(((rd_T116 l0 x5_1).f0) == ((rd_T116 l1 x5_1).f0)) || (!(((rd_T116 l0 x5_1).f1) == ((rd_T116 l1 x5_1).f1)))) = true
       ·rw [if_pos c7] at H
        have c7b0 : (!(((rd_T116 l0 x5_1).f0) == ((rd_T116 l1 x5_1).f0)) || (!(((rd_T116 l0 x5_1).f1) == ((rd_T116 l1 x5_1).f1)))) = true := c7
        clear c7
        obtain rfl := Option.some.inj H
        have p147 : 0 ≤ (x5_1 : Int) := of_decide_eq_true (by first | (with_reducible assumption) | assumption)
        have q147 : x5_1 < (l0.length : Int) := of_decide_eq_true (by first | (with_reducible assumption) | assumption)
        obtain ⟨ad147, e147, hx147_0, hx147_1⟩ := at_T116 HR0.out x5_1 p147 q147
        cases e147
        replace p147 := eq_true p147
        replace q147 := eq_true q147
        have p148 : 0 ≤ (x5_1 : Int) := of_decide_eq_true (by first | (with_reducible assumption) | assumption)
        have q148 : x5_1 < (l1.length : Int) := of_decide_eq_true (by first | (with_reducible assumption) | assumption)
        obtain ⟨ad148, e148, hx148_0, hx148_1⟩ := at_T116 HR1.out x5_1 p148 q148
        cases e148
        replace p148 := eq_true p148
        replace q148 := eq_true q148
        go_wp2
        repeat (go_quiet (fail); try go_wp2)
        go_ret
        exact ⟨by first | rfl | (simp; done) | (simp [*]; done), by repeat (first | exact Drawn0.refl _ | apply Drawn0.step)⟩
       ·rw [if_neg c7] at H
        have c7b0 : (!(((rd_T116 l0 x5_1).f0) == ((rd_T116 l1 x5_1).f0)) || (!(((rd_T116 l0 x5_1).f1) == ((rd_T116 l1 x5_1).f1)))) = false := by simpa using c7
        clear c7
        have H' := Aside0.mk H
        clear H
        have p147 : 0 ≤ (x5_1 : Int) := of_decide_eq_true (by first | (with_reducible assumption) | assumption)
        have q147 : x5_1 < (l0.length : Int) := of_decide_eq_true (by first | (with_reducible assumption) | assumption)
        obtain ⟨ad147, e147, hx147_0, hx147_1⟩ := at_T116 HR0.out x5_1 p147 q147
        cases e147
        replace p147 := eq_true p147
        replace q147 := eq_true q147
        have p148 : 0 ≤ (x5_1 : Int) := of_decide_eq_true (by first | (with_reducible assumption) | assumption)
        have q148 : x5_1 < (l1.length : Int) := of_decide_eq_true (by first | (with_reducible assumption) | assumption)
        obtain ⟨ad148, e148, hx148_0, hx148_1⟩ := at_T116 HR1.out x5_1 p148 q148
        cases e148
        replace p148 := eq_true p148
        replace q148 := eq_true q148
        go_wp2
        repeat (go_quiet (fail); try go_wp2)
        go_roundg k1
        case measure => have := HK1.out; omega
        case rel => exact ⟨(wrap64 (x5_1 + 1)), (by first | rfl | (simp; done) | (simp [*]; done)), H', ⟨by have := HK1.out; omega⟩, by repeat (first | exact Drawn0.refl _ | apply Drawn0.step)⟩
      ·rw [if_neg c6] at H
       exact absurd H (by simp)
     ·rw [if_neg c5] at H
      exact absurd H (by simp)
    ·rw [if_neg c4] at H
     have c4b0 : decide (x5_1 < (l0.length : Int)) = false := decide_eq_false c4
     clear c4
     obtain rfl := Option.some.inj H
     go_wp2
     repeat (go_quiet (fail); try go_wp2)
     go_ret
     exact ⟨by first | rfl | (simp; done) | (simp [*]; done), by repeat (first | exact Drawn0.refl _ | apply Drawn0.step)⟩
 ·rw [if_neg c3] at H
  have c3b0 : ((l0.length : Int) == (l1.length : Int)) = false := beq_eq_false_iff_ne.mpr c3
  have c3b1 : ((l0.length : Int) != (l1.length : Int)) = true := bne_iff_ne.mpr c3
  have c3b2 : (l0.length == l1.length) = false := by first | simpa using c3 | (simp at c3 ⊢; omega)
  obtain rfl := Option.some.inj H
  go_enter Tryd.func38, Tryd.ntmps38
  go_wp2
  repeat (go_quiet (fail); try go_wp2)
  go_ret
  exact ⟨by first | rfl | (simp; done) | (simp [*]; done), by repeat (first | exact Drawn0.refl _ | apply Drawn0.step)⟩
end Go.Proofs.YtgkodenllfpajaaDoor.A
end
