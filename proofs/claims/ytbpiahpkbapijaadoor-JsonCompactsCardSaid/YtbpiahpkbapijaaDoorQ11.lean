/- Lemmas and walks for the claim; no condition beyond what each states. -/
import Derived.Test.YtbpiahpkbapijaaDoorQ10
section
namespace Go.Proofs.YtbpiahpkbapijaaDoor.J
open Go.RowKit Go.Proofs.YtbpiahpkbapijaaDoorW.PrintWords Go.Proofs.YtbpiahpkbapijaaDoorW.PrintLast Go.Proofs.YtbpiahpkbapijaaDoorW.PrintMore
set_option linter.unusedVariables false
set_option linter.unusedSimpArgs false
theorem ch_alloc {S : Nat → Prop} {W w : World} {o : Obj} (h : Ch S (W.alloc o) w) : Ch S W w := Ch.trans ((Ch.refl S W).alloc o) h
theorem keep_ch {w0 w1 w2 : World} {g : Nat} (h1 : Below w0.heap.size w0 w1) (h2 : Below w0.heap.size w0 w2) (hk : KeepBut w1 w2 g none) : Ch (· = g) w1 w2 :=
 ⟨h2.os.trans h1.os.symm, h2.tape.trans h1.tape.symm, h2.output.trans h1.output.symm, hk.1, fun i hi hn => hk.2 i hi hn (by simp)⟩
theorem ch_keep {w1 w2 : World} {g : Nat} (h : Ch (· = g) w1 w2) : KeepBut w1 w2 g none := ⟨h.size, fun i hi hn _ => h.block i hi hn⟩
theorem ch_below {w0 w1 w2 : World} {g : Nat} (h1 : Below w0.heap.size w0 w1) (hg : w0.heap.size ≤ g) (h : Ch (· = g) w1 w2) : Below w0.heap.size w0 w2 :=
 ⟨h.os.trans h1.os, h.tape.trans h1.tape, h.output.trans h1.output, Nat.le_trans h1.size h.size, fun i hi => (h.block i (Nat.lt_of_lt_of_le hi h1.size) (fun e => by have : i = g := e; omega)).trans (h1.block i hi)⟩
theorem c6 {w : World} {g : Nat} {a b c d e f : Value} {T : Nat} (h : w.heap[g]? = some (.cells #[a, b, c, d, e, f] T (0, 0))) :
  w.cell? ⟨g, 0, none⟩ = some a ∧ w.cell? ⟨g, 1, none⟩ = some b ∧ w.cell? ⟨g, 2, none⟩ = some c ∧ w.cell? ⟨g, 3, none⟩ = some d ∧ w.cell? ⟨g, 4, none⟩ = some e ∧ w.cell? ⟨g, 5, none⟩ = some f ∧ (∀ j, w.frozen? ⟨g, j, none⟩ = false) ∧ g < w.heap.size :=
 have g := pcell h
 ⟨g.1 0 _ rfl, g.1 1 _ rfl, g.1 2 _ rfl, g.1 3 _ rfl, g.1 4 _ rfl, g.1 5 _ rfl, g.2.1, g.2.2⟩
theorem s4 {w0 w : World} {g : Nat} {a : ByteArray} {b c d : Int} (h : IsS79 w0 w g a b c d) :
  w.cell? ⟨g, 0, none⟩ = some (.string a) ∧ w.cell? ⟨g, 1, none⟩ = some (.int .i64 b) ∧ w.cell? ⟨g, 2, none⟩ = some (.int .i64 c) ∧ w.cell? ⟨g, 3, none⟩ = some (.int .i64 d) ∧ (∀ j, w.frozen? ⟨g, j, none⟩ = false) ∧ g < w.heap.size :=
 have g := pcell h.1
 ⟨g.1 0 _ rfl, g.1 1 _ rfl, g.1 2 _ rfl, g.1 3 _ rfl, g.2.1, g.2.2⟩
theorem fill6 {g : Nat} (w : World) (a b c d e f : Value) : Ch (· = g) w ((((((w.setCell ⟨g, 0, none⟩ a).setCell ⟨g, 1, none⟩ b).setCell ⟨g, 2, none⟩ c).setCell ⟨g, 3, none⟩ d).setCell ⟨g, 4, none⟩ e).setCell ⟨g, 5, none⟩ f) :=
 ((((((Ch.refl (fun k => k = g) w).set (fun _ => rfl) a).set (fun _ => rfl) b).set (fun _ => rfl) c).set (fun _ => rfl) d).set (fun _ => rfl) e).set (fun _ => rfl) f
theorem doc_end {w0 w w2 : World} {g : Nat} {q1 q2 : ByteArray} {x1 x2 x3 y1 y2 y3 : Int} {o : Obj} (hI : IsS79 w0 w g q1 x1 x2 x3) (hB : Below w0.heap.size w0 w) (hI2 : IsS79 w0 w2 g q2 y1 y2 y3) (hc : Ch (· = g) (w.alloc o) w2) (a b c d e f : Value) :
  IsS79 w0 ((((((w2.setCell ⟨w.heap.size, 0, none⟩ a).setCell ⟨w.heap.size, 1, none⟩ b).setCell ⟨w.heap.size, 2, none⟩ c).setCell ⟨w.heap.size, 3, none⟩ d).setCell ⟨w.heap.size, 4, none⟩ e).setCell ⟨w.heap.size, 5, none⟩ f) g q2 y1 y2 y3 ∧
  Below w0.heap.size w0 ((((((w2.setCell ⟨w.heap.size, 0, none⟩ a).setCell ⟨w.heap.size, 1, none⟩ b).setCell ⟨w.heap.size, 2, none⟩ c).setCell ⟨w.heap.size, 3, none⟩ d).setCell ⟨w.heap.size, 4, none⟩ e).setCell ⟨w.heap.size, 5, none⟩ f) ∧
  KeepBut w ((((((w2.setCell ⟨w.heap.size, 0, none⟩ a).setCell ⟨w.heap.size, 1, none⟩ b).setCell ⟨w.heap.size, 2, none⟩ c).setCell ⟨w.heap.size, 3, none⟩ d).setCell ⟨w.heap.size, 4, none⟩ e).setCell ⟨w.heap.size, 5, none⟩ f) g none := by
 have hl := hI.lt
 have hf := fill6 (g := w.heap.size) w2 a b c d e f
 have h1 := ch_alloc hc
 have h2 : Ch (· = g) w ((((((w2.setCell ⟨w.heap.size, 0, none⟩ a).setCell ⟨w.heap.size, 1, none⟩ b).setCell ⟨w.heap.size, 2, none⟩ c).setCell ⟨w.heap.size, 3, none⟩ d).setCell ⟨w.heap.size, 4, none⟩ e).setCell ⟨w.heap.size, 5, none⟩ f) :=
  ⟨hf.os.trans h1.os, hf.tape.trans h1.tape, hf.output.trans h1.output, Nat.le_trans h1.size hf.size, fun i hi hn => (hf.block i (Nat.lt_of_lt_of_le hi h1.size) (fun e => by have : i = w.heap.size := e; omega)).trans (h1.block i hi hn)⟩
 exact ⟨⟨(hf.block g hI2.lt (fun e => by have : g = w.heap.size := e; omega)).trans hI2.1, hI2.2⟩, ch_below hB hI.2 h2, ch_keep h2⟩
theorem box6 {w w2 : World} {g : Nat} {cs : Array Value} {T : Nat} (hc : Ch (· = g) (w.alloc (.cells cs T)) w2) (hg : g < w.heap.size) : w2.heap[w.heap.size]? = some (.cells cs T (0, 0)) := box_ch hc (fun e => by have : w.heap.size = g := e; omega)
theorem pset6 {w : World} {g : Nat} {v0 v1 v2 v3 v4 v5 : Value} {T : Nat} (h : w.heap[g]? = some (.cells #[v0, v1, v2, v3, v4, v5] T (0, 0))) (a b c d e f : Value) :
  ((((((w.setCell ⟨g, 0, none⟩ a).setCell ⟨g, 1, none⟩ b).setCell ⟨g, 2, none⟩ c).setCell ⟨g, 3, none⟩ d).setCell ⟨g, 4, none⟩ e).setCell ⟨g, 5, none⟩ f).heap[g]? = some (.cells #[a, b, c, d, e, f] T (0, 0)) :=
 pset (pset (pset (pset (pset (pset h 0 a) 1 b) 2 c) 3 d) 4 e) 5 f
theorem bx_st {w : World} {g k : Nat} {o : Obj} (h : w.heap[g]? = some o) (hne : g ≠ k) (j : Nat) (v : Value) : (w.setCell ⟨k, j, none⟩ v).heap[g]? = some o := (Below.heap_setCell w ⟨k, j, none⟩ v g hne).trans h
theorem info67w : (Tryd.prog.info? 67).map (·.size) = some 6 := by kernel_rfl
theorem R67_nil (w : World) (b : Nat) (ok : Nat → Prop) : Kd.R k67 67 w b ok (.slice none 0 0) [] := Kd.R_nil _ _ _ _ _
theorem bx_al {w : World} {g : Nat} {cs : Array Value} {T : Nat} (h : w.heap[g]? = some (.cells cs T (0, 0))) (o : Obj) : (w.alloc o).heap[g]? = some (.cells cs T (0, 0)) := ((Fr.out (w := w) (w' := w.alloc o) inferInstance).block g (Array.getElem?_eq_some_iff.1 h).1).trans h
set_option maxHeartbeats 8000000 in
set_option maxRecDepth 100000 in
theorem T_word.calls (g : Nat) (s0_0 : ByteArray) (s0_1 : Int) (s0_2 : Int) (s0_3 : Int) (a1 : ByteArray) (a2 : Int) (r1 : Int) (r2 : Int) (r3 : Int) (r4 : ByteArray) (r5 : List (S67)) (r6 : List (S67)) (r7 : ByteArray) (r8 : Int) (r9 : Int) (r10 : Int) (w0 w : World) (hI : IsS79 w0 w g s0_0 s0_1 s0_2 s0_3) (hB : Below w0.heap.size w0 w) (h : T_word.f s0_0 s0_1 s0_2 s0_3 a1 a2 = some (r1, r2, r3, r4, r5, r6, r7, r8, r9, r10)) :
  Calls Tryd.prog 46 #[.pointer (some ⟨g, 0, none⟩), .string a1, .int .i64 a2] w fun e w' => ∃ v4_ v5_ : Value, e = .returned (.agg #[.int .i64 r1, .int .i64 r2, .int .i64 r3, .string r4, v4_, v5_]) ∧ Kd.R k67 67 w' w.heap.size (fun k_ => some k_ ≠ (v5_ : Value).ownBlock) v4_ r5 ∧ Kd.R k67 67 w' w.heap.size (fun k_ => some k_ ≠ (v4_ : Value).ownBlock) v5_ r6 ∧ IsS79 w0 w' g r7 r8 r9 r10 ∧ Below w0.heap.size w0 w' ∧ KeepBut w w' g none := by
 have HI := yM hI
 have HB := yM hB
 obtain ⟨c0, c1, c2, c3, cf, lt⟩ := s4 hI
 have hlt := lt
 have HI2 := yM (show IsS79 w0 ((w.alloc (.cells #[.int .i64 0, .int .i64 0, .int .i64 0, .string ⟨#[]⟩, .slice none 0 0, .slice none 0 0] 67)).alloc (.cells #[.int .i64 a2, .int .i64 s0_1, .int .i64 0, .string ⟨#[]⟩, .slice none 0 0, .slice none 0 0] 67)) g s0_0 s0_1 s0_2 s0_3 from (hI.alloc _).alloc _)
 have HC2 := yM (show Ch (· = g) (w.alloc (.cells #[.int .i64 0, .int .i64 0, .int .i64 0, .string ⟨#[]⟩, .slice none 0 0, .slice none 0 0] 67)) ((w.alloc (.cells #[.int .i64 0, .int .i64 0, .int .i64 0, .string ⟨#[]⟩, .slice none 0 0, .slice none 0 0] 67)).alloc (.cells #[.int .i64 a2, .int .i64 s0_1, .int .i64 0, .string ⟨#[]⟩, .slice none 0 0, .slice none 0 0] 67)) from (Ch.refl _ _).alloc _)
 have HB2 := yM (show Below w0.heap.size w0 ((w.alloc (.cells #[.int .i64 0, .int .i64 0, .int .i64 0, .string ⟨#[]⟩, .slice none 0 0, .slice none 0 0] 67)).alloc (.cells #[.int .i64 a2, .int .i64 s0_1, .int .i64 0, .string ⟨#[]⟩, .slice none 0 0, .slice none 0 0] 67)) from ch_below hB hI.2 ((Ch.refl _ w).alloc _ |>.alloc _))
 have HN2 := yM (show ((w.alloc (.cells #[.int .i64 0, .int .i64 0, .int .i64 0, .string ⟨#[]⟩, .slice none 0 0, .slice none 0 0] 67)).alloc (.cells #[.int .i64 a2, .int .i64 s0_1, .int .i64 0, .string ⟨#[]⟩, .slice none 0 0, .slice none 0 0] 67)).heap[w.heap.size + 1]? = some (.cells #[.int .i64 a2, .int .i64 s0_1, .int .i64 0, .string ⟨#[]⟩, .slice none 0 0, .slice none 0 0] 67 (0, 0)) from by have := blk_new (w.alloc (.cells #[.int .i64 0, .int .i64 0, .int .i64 0, .string ⟨#[]⟩, .slice none 0 0, .slice none 0 0] 67)) (.cells #[.int .i64 a2, .int .i64 s0_1, .int .i64 0, .string ⟨#[]⟩, .slice none 0 0, .slice none 0 0] 67); simpa using this)
 have HX2 := yM (show ((w.alloc (.cells #[.int .i64 0, .int .i64 0, .int .i64 0, .string ⟨#[]⟩, .slice none 0 0, .slice none 0 0] 67)).alloc (.cells #[.int .i64 a2, .int .i64 s0_1, .int .i64 0, .string ⟨#[]⟩, .slice none 0 0, .slice none 0 0] 67)).heap[w.heap.size]? = some (.cells #[.int .i64 0, .int .i64 0, .int .i64 0, .string ⟨#[]⟩, .slice none 0 0, .slice none 0 0] 67 (0, 0)) from bx_al (blk_new w _) _)
 obtain ⟨d0, d1, d2, d3, df, dl⟩ := s4 HI2.out
 have n1 : g ≠ w.heap.size := by omega
 have n2 : w.heap.size ≠ g := by omega
 have n3 : g ≠ w.heap.size + 1 := by omega
 have n4 : w.heap.size + 1 ≠ g := by omega
 clear hI hB
 unfold T_word.f at h
 by_cases c4 : (wrap64 ((s0_0.size : Int) - s0_1)) < (a1.size : Int)
 ·rw [if_pos c4] at h
  have c4b0 : decide ((wrap64 ((s0_0.size : Int) - s0_1)) < (a1.size : Int)) = true := decide_eq_true c4
  obtain ⟨⟨t7, t8, t9, t10⟩, A50, h⟩ := yO h
  have A5 := yM A50
  simp only [Option.some.injEq, Prod.mk.injEq] at h
  obtain ⟨rfl, rfl, rfl, rfl, rfl, rfl, rfl, rfl, rfl, rfl⟩ := h
  clear c4 A50
  go_enter Tryd.func46, Tryd.ntmps46
  go_wp2
  refine start_ (n := 33) (S := fun w' => w'.cell? ⟨g, 0, none⟩ = some (.string s0_0) ∧ w'.cell? ⟨g, 1, none⟩ = some (.int .i64 s0_1)) (ds := []) #[false, false, false, false, false, false, false, false, false, false, false, false, false, false, false, false, false, false, false, false, false, false, false, false, false, false, false, false, false, false, false, false, false] (by kernel_rfl) rfl rfl ⟨(by simpa using d0), (by simpa using d1)⟩ (fun hHeld => ?_)
  refine pure_ (i := 0) (N := some 14) (v := ?_) (a' := ?_) #[true, false, false, false, false, false, false, false, false, false, false, false, false, false, false, false, false, false, false, false, false, false, false, false, false, false, false, false, false, false, false, false, false] rfl rfl (by kernel_rfl) (fun _ _ _ h => h) (Or.inl ⟨by rfl, ?_⟩) ?_ ?_
  rotate_left
  ·intro w'
   go_simp
   with_reducible rfl
  rotate_left
  ·simp only [Act.put, yX, yY, yZ, i64_w, i32_w]
   rfl
  refine pure_ (i := 1) (N := some 15) (v := ?_) (a' := ?_) #[true, true, false, false, false, false, false, false, false, false, false, false, false, false, false, false, false, false, false, false, false, false, false, false, false, false, false, false, false, false, false, false, false] rfl rfl (by kernel_rfl) (fun _ _ _ h => h) (Or.inl ⟨by rfl, ?_⟩) ?_ ?_
  rotate_left
  ·intro w'
   go_simp
   with_reducible rfl
  rotate_left
  ·simp only [Act.put, yX, yY, yZ, i64_w, i32_w]
   rfl
  refine pure_ (i := 2) (N := some 16) (v := ?_) (a' := ?_) #[true, true, true, false, false, false, false, false, false, false, false, false, false, false, false, false, false, false, false, false, false, false, false, false, false, false, false, false, false, false, false, false, false] rfl rfl (by kernel_rfl) (fun _ _ _ h => h) (Or.inl ⟨by rfl, ?_⟩) ?_ ?_
  rotate_left
  ·intro w'
   go_simp
   with_reducible rfl
  rotate_left
  ·simp only [Act.put, yX, yY, yZ, i64_w, i32_w]
   rfl
  refine pure_ (i := 5) (N := some 19) (v := ?_) (a' := ?_) #[true, true, true, false, false, true, false, false, false, false, false, false, false, false, false, false, false, false, false, false, false, false, false, false, false, false, false, false, false, false, false, false, false] rfl rfl (by kernel_rfl) (fun _ _ _ h => h) (Or.inl ⟨by rfl, ?_⟩) ?_ ?_
  rotate_left
  ·intro w'
   go_simp
   with_reducible rfl
  rotate_left
  ·simp only [Act.put, yX, yY, yZ, i64_w, i32_w]
   rfl
  refine pure_ (i := 6) (N := some 20) (v := ?_) (a' := ?_) #[true, true, true, false, false, true, true, false, false, false, false, false, false, false, false, false, false, false, false, false, false, false, false, false, false, false, false, false, false, false, false, false, false] rfl rfl (by kernel_rfl) (fun _ _ _ h => h) (Or.inl ⟨by rfl, ?_⟩) ?_ ?_
  rotate_left
  ·intro w'
   go_simp
   with_reducible rfl
  rotate_left
  ·simp only [Act.put, yX, yY, yZ, i64_w, i32_w]
   rfl
  refine pure_ (i := 7) (N := some 21) (v := ?_) (a' := ?_) #[true, true, true, false, false, true, true, true, false, false, false, false, false, false, false, false, false, false, false, false, false, false, false, false, false, false, false, false, false, false, false, false, false] rfl rfl (by kernel_rfl) (fun _ _ _ h => h) (Or.inl ⟨by rfl, ?_⟩) ?_ ?_
  rotate_left
  ·intro w'
   go_simp
   with_reducible rfl
  rotate_left
  ·simp only [Act.put, yX, yY, yZ, i64_w, i32_w]
   rfl
  refine pure_ (i := 10) (N := some 24) (v := ?_) (a' := ?_) #[true, true, true, false, false, true, true, true, false, false, true, false, false, false, false, false, false, false, false, false, false, false, false, false, false, false, false, false, false, false, false, false, false] rfl rfl (by kernel_rfl) (fun _ _ _ h => h) (Or.inl ⟨by rfl, ?_⟩) ?_ ?_
  rotate_left
  ·intro w'
   go_simp
   with_reducible rfl
  rotate_left
  ·simp only [Act.put, yX, yY, yZ, i64_w, i32_w]
   rfl
  refine pure_ (i := 11) (N := some 25) (v := ?_) (a' := ?_) #[true, true, true, false, false, true, true, true, false, false, true, true, false, false, false, false, false, false, false, false, false, false, false, false, false, false, false, false, false, false, false, false, false] rfl rfl (by kernel_rfl) (fun _ _ _ h => h) (Or.inl ⟨by rfl, ?_⟩) ?_ ?_
  rotate_left
  ·intro w'
   go_simp
   with_reducible rfl
  rotate_left
  ·simp only [Act.put, yX, yY, yZ, i64_w, i32_w]
   rfl
  refine take_ (i := 3) (N := some 17) (v := ?_) (a' := ?_) #[true, true, true, true, false, true, true, true, false, false, true, true, false, false, false, false, false, false, false, false, false, false, false, false, false, false, false, false, false, false, false, false, false] rfl rfl (by kernel_rfl) (fun _ _ _ h => h) (Or.inl ⟨by rfl, ?_⟩) hHeld ?_ ?_
  rotate_left
  ·rintro w' ⟨s0, s1⟩
   go_simp
   with_reducible rfl
  rotate_left
  ·simp only [Act.put, yX, yY, yZ, i64_w, i32_w]
   rfl
  refine pure_ (i := 4) (N := some 18) (v := ?_) (a' := ?_) #[true, true, true, true, true, true, true, true, false, false, true, true, false, false, false, false, false, false, false, false, false, false, false, false, false, false, false, false, false, false, false, false, false] rfl rfl (by kernel_rfl) (fun _ _ _ h => h) (Or.inl ⟨by rfl, ?_⟩) ?_ ?_
  rotate_left
  ·intro w'
   go_simp
   with_reducible rfl
  rotate_left
  ·simp only [Act.put, yX, yY, yZ, i64_w, i32_w]
   rfl
  refine take_ (i := 8) (N := some 22) (v := ?_) (a' := ?_) #[true, true, true, true, true, true, true, true, true, false, true, true, false, false, false, false, false, false, false, false, false, false, false, false, false, false, false, false, false, false, false, false, false] rfl rfl (by kernel_rfl) (fun _ _ _ h => h) (Or.inl ⟨by rfl, ?_⟩) hHeld ?_ ?_
  rotate_left
  ·rintro w' ⟨s0, s1⟩
   go_simp
   with_reducible rfl
  rotate_left
  ·simp only [Act.put, yX, yY, yZ, i64_w, i32_w]
   rfl
  refine pure_ (i := 9) (N := some 23) (v := ?_) (a' := ?_) #[true, true, true, true, true, true, true, true, true, true, true, true, false, false, false, false, false, false, false, false, false, false, false, false, false, false, false, false, false, false, false, false, false] rfl rfl (by kernel_rfl) (fun _ _ _ h => h) (Or.inl ⟨by rfl, ?_⟩) ?_ ?_
  rotate_left
  ·intro w'
   go_simp
   with_reducible rfl
  rotate_left
  ·simp only [Act.put, yX, yY, yZ, i64_w, i32_w]
   rfl
  refine pure_ (i := 12) (N := some 26) (v := ?_) (a' := ?_) #[true, true, true, true, true, true, true, true, true, true, true, true, true, false, false, false, false, false, false, false, false, false, false, false, false, false, false, false, false, false, false, false, false] rfl rfl (by kernel_rfl) (fun _ _ _ h => h) (Or.inl ⟨by rfl, ?_⟩) ?_ ?_
  rotate_left
  ·intro w'
   go_simp
   with_reducible rfl
  rotate_left
  ·simp only [Act.put, yX, yY, yZ, i64_w, i32_w]
   rfl
  refine pure_ (i := 13) (N := some 27) (v := ?_) (a' := ?_) #[true, true, true, true, true, true, true, true, true, true, true, true, true, true, false, false, false, false, false, false, false, false, false, false, false, false, false, false, false, false, false, false, false] rfl rfl (by kernel_rfl) (fun _ _ _ h => h) (Or.inl ⟨by rfl, ?_⟩) ?_ ?_
  rotate_left
  ·intro w'
   go_simp
   with_reducible rfl
  rotate_left
  ·simp only [Act.put, yX, yY, yZ, i64_w, i32_w]
   rfl
  refine pure_ (i := 14) (N := some 28) (v := undef) (a' := ?_) #[true, true, true, true, true, true, true, true, true, true, true, true, true, true, true, false, false, false, false, false, false, false, false, false, false, false, false, false, false, false, false, false, false] rfl rfl (by kernel_rfl) (fun _ _ _ h => h) (Or.inr ⟨by rfl, rfl⟩) ?_ ?_
  rotate_left
  ·simp only [Act.put, yX, yY, yZ, i64_w, i32_w]
   rfl
  refine pure_ (i := 15) (N := some 29) (v := undef) (a' := ?_) #[true, true, true, true, true, true, true, true, true, true, true, true, true, true, true, true, false, false, false, false, false, false, false, false, false, false, false, false, false, false, false, false, false] rfl rfl (by kernel_rfl) (fun _ _ _ h => h) (Or.inr ⟨by rfl, rfl⟩) ?_ ?_
  rotate_left
  ·simp only [Act.put, yX, yY, yZ, i64_w, i32_w]
   rfl
  refine pure_ (i := 16) (N := some 30) (v := undef) (a' := ?_) #[true, true, true, true, true, true, true, true, true, true, true, true, true, true, true, true, true, false, false, false, false, false, false, false, false, false, false, false, false, false, false, false, false] rfl rfl (by kernel_rfl) (fun _ _ _ h => h) (Or.inr ⟨by rfl, rfl⟩) ?_ ?_
  rotate_left
  ·simp only [Act.put, yX, yY, yZ, i64_w, i32_w]
   rfl
  refine pure_ (i := 17) (N := some 31) (v := undef) (a' := ?_) #[true, true, true, true, true, true, true, true, true, true, true, true, true, true, true, true, true, true, false, false, false, false, false, false, false, false, false, false, false, false, false, false, false] rfl rfl (by kernel_rfl) (fun _ _ _ h => h) (Or.inr ⟨by rfl, rfl⟩) ?_ ?_
  rotate_left
  ·simp only [Act.put, yX, yY, yZ, i64_w, i32_w]
   rfl
  refine pure_ (i := 18) (N := some 32) (v := undef) (a' := ?_) #[true, true, true, true, true, true, true, true, true, true, true, true, true, true, true, true, true, true, true, false, false, false, false, false, false, false, false, false, false, false, false, false, false] rfl rfl (by kernel_rfl) (fun _ _ _ h => h) (Or.inr ⟨by rfl, rfl⟩) ?_ ?_
  rotate_left
  ·simp only [Act.put, yX, yY, yZ, i64_w, i32_w]
   rfl
  refine pure_ (i := 19) (N := some 33) (v := undef) (a' := ?_) #[true, true, true, true, true, true, true, true, true, true, true, true, true, true, true, true, true, true, true, true, false, false, false, false, false, false, false, false, false, false, false, false, false] rfl rfl (by kernel_rfl) (fun _ _ _ h => h) (Or.inr ⟨by rfl, rfl⟩) ?_ ?_
  rotate_left
  ·simp only [Act.put, yX, yY, yZ, i64_w, i32_w]
   rfl
  refine pure_ (i := 20) (N := some 34) (v := undef) (a' := ?_) #[true, true, true, true, true, true, true, true, true, true, true, true, true, true, true, true, true, true, true, true, true, false, false, false, false, false, false, false, false, false, false, false, false] rfl rfl (by kernel_rfl) (fun _ _ _ h => h) (Or.inr ⟨by rfl, rfl⟩) ?_ ?_
  rotate_left
  ·simp only [Act.put, yX, yY, yZ, i64_w, i32_w]
   rfl
  refine pure_ (i := 21) (N := some 35) (v := undef) (a' := ?_) #[true, true, true, true, true, true, true, true, true, true, true, true, true, true, true, true, true, true, true, true, true, true, false, false, false, false, false, false, false, false, false, false, false] rfl rfl (by kernel_rfl) (fun _ _ _ h => h) (Or.inr ⟨by rfl, rfl⟩) ?_ ?_
  rotate_left
  ·simp only [Act.put, yX, yY, yZ, i64_w, i32_w]
   rfl
  refine pure_ (i := 22) (N := some 36) (v := undef) (a' := ?_) #[true, true, true, true, true, true, true, true, true, true, true, true, true, true, true, true, true, true, true, true, true, true, true, false, false, false, false, false, false, false, false, false, false] rfl rfl (by kernel_rfl) (fun _ _ _ h => h) (Or.inr ⟨by rfl, rfl⟩) ?_ ?_
  rotate_left
  ·simp only [Act.put, yX, yY, yZ, i64_w, i32_w]
   rfl
  refine pure_ (i := 23) (N := some 37) (v := undef) (a' := ?_) #[true, true, true, true, true, true, true, true, true, true, true, true, true, true, true, true, true, true, true, true, true, true, true, true, false, false, false, false, false, false, false, false, false] rfl rfl (by kernel_rfl) (fun _ _ _ h => h) (Or.inr ⟨by rfl, rfl⟩) ?_ ?_
  rotate_left
  ·simp only [Act.put, yX, yY, yZ, i64_w, i32_w]
   rfl
  refine pure_ (i := 24) (N := some 38) (v := undef) (a' := ?_) #[true, true, true, true, true, true, true, true, true, true, true, true, true, true, true, true, true, true, true, true, true, true, true, true, true, false, false, false, false, false, false, false, false] rfl rfl (by kernel_rfl) (fun _ _ _ h => h) (Or.inr ⟨by rfl, rfl⟩) ?_ ?_
  rotate_left
  ·simp only [Act.put, yX, yY, yZ, i64_w, i32_w]
   rfl
  refine pure_ (i := 25) (N := some 39) (v := undef) (a' := ?_) #[true, true, true, true, true, true, true, true, true, true, true, true, true, true, true, true, true, true, true, true, true, true, true, true, true, true, false, false, false, false, false, false, false] rfl rfl (by kernel_rfl) (fun _ _ _ h => h) (Or.inr ⟨by rfl, rfl⟩) ?_ ?_
  rotate_left
  ·simp only [Act.put, yX, yY, yZ, i64_w, i32_w]
   rfl
  refine pure_ (i := 26) (N := some 40) (v := undef) (a' := ?_) #[true, true, true, true, true, true, true, true, true, true, true, true, true, true, true, true, true, true, true, true, true, true, true, true, true, true, true, false, false, false, false, false, false] rfl rfl (by kernel_rfl) (fun _ _ _ h => h) (Or.inr ⟨by rfl, rfl⟩) ?_ ?_
  rotate_left
  ·simp only [Act.put, yX, yY, yZ, i64_w, i32_w]
   rfl
  refine pure_ (i := 27) (N := some 41) (v := undef) (a' := ?_) #[true, true, true, true, true, true, true, true, true, true, true, true, true, true, true, true, true, true, true, true, true, true, true, true, true, true, true, true, false, false, false, false, false] rfl rfl (by kernel_rfl) (fun _ _ _ h => h) (Or.inr ⟨by rfl, rfl⟩) ?_ ?_
  rotate_left
  ·simp only [Act.put, yX, yY, yZ, i64_w, i32_w]
   rfl
  refine pure_ (i := 28) (N := some 42) (v := undef) (a' := ?_) #[true, true, true, true, true, true, true, true, true, true, true, true, true, true, true, true, true, true, true, true, true, true, true, true, true, true, true, true, true, false, false, false, false] rfl rfl (by kernel_rfl) (fun _ _ _ h => h) (Or.inr ⟨by rfl, rfl⟩) ?_ ?_
  rotate_left
  ·simp only [Act.put, yX, yY, yZ, i64_w, i32_w]
   rfl
  refine pure_ (i := 29) (N := some 43) (v := undef) (a' := ?_) #[true, true, true, true, true, true, true, true, true, true, true, true, true, true, true, true, true, true, true, true, true, true, true, true, true, true, true, true, true, true, false, false, false] rfl rfl (by kernel_rfl) (fun _ _ _ h => h) (Or.inr ⟨by rfl, rfl⟩) ?_ ?_
  rotate_left
  ·simp only [Act.put, yX, yY, yZ, i64_w, i32_w]
   rfl
  refine pure_ (i := 30) (N := some 44) (v := undef) (a' := ?_) #[true, true, true, true, true, true, true, true, true, true, true, true, true, true, true, true, true, true, true, true, true, true, true, true, true, true, true, true, true, true, true, false, false] rfl rfl (by kernel_rfl) (fun _ _ _ h => h) (Or.inr ⟨by rfl, rfl⟩) ?_ ?_
  rotate_left
  ·simp only [Act.put, yX, yY, yZ, i64_w, i32_w]
   rfl
  refine pure_ (i := 31) (N := some 45) (v := undef) (a' := ?_) #[true, true, true, true, true, true, true, true, true, true, true, true, true, true, true, true, true, true, true, true, true, true, true, true, true, true, true, true, true, true, true, true, false] rfl rfl (by kernel_rfl) (fun _ _ _ h => h) (Or.inr ⟨by rfl, rfl⟩) ?_ ?_
  rotate_left
  ·simp only [Act.put, yX, yY, yZ, i64_w, i32_w]
   rfl
  refine pure_ (i := 32) (N := some 46) (v := ?_) (a' := ?_) #[true, true, true, true, true, true, true, true, true, true, true, true, true, true, true, true, true, true, true, true, true, true, true, true, true, true, true, true, true, true, true, true, true] rfl rfl (by kernel_rfl) (fun _ _ _ h => h) (Or.inl ⟨by rfl, ?_⟩) ?_ ?_
  rotate_left
  ·intro w'
   go_simp
   with_reducible rfl
  rotate_left
  ·simp only [Act.put, yX, yY, yZ, i64_w, i32_w]
   rfl
  refine done_ (by kernel_rfl) ?_
  go_wp2_with fail
  refine (T_fail.calls g _ _ _ _ _ _ _ _ _ _ w0 _ HI2.out.drew (Below.drew HB2.out) A5.out).mono ?_
  rintro e w6 ⟨rfl, hi6, hb6, hk6⟩
  have hch := keep_ch (Below.drew HB2.out) hb6 hk6
  have hc6 : Ch (· = g) (w.alloc (.cells #[.int .i64 0, .int .i64 0, .int .i64 0, .string ⟨#[]⟩, .slice none 0 0, .slice none 0 0] 67)) w6 := HC2.out.drew.trans hch
  have hx := box6 hc6 hlt
  have hn := (hch.block (w.heap.size + 1) (by simp) (fun e => by have : w.heap.size + 1 = g := e; omega)).trans (show ((w.alloc (.cells #[.int .i64 0, .int .i64 0, .int .i64 0, .string ⟨#[]⟩, .slice none 0 0, .slice none 0 0] 67)).alloc (.cells #[.int .i64 a2, .int .i64 s0_1, .int .i64 0, .string ⟨#[]⟩, .slice none 0 0, .slice none 0 0] 67)).drew.heap[w.heap.size + 1]? = _ from HN2.out)
  have HI6 := yM hi6
  have HC6 := yM hc6
  have HX6 := yM hx
  obtain ⟨y0, y1, y2, y3, y4, y5, yf, yl⟩ := c6 hx
  obtain ⟨z0, z1, z2, z3, z4, z5, zf, zl⟩ := c6 hn
  clear hi6 hb6 hk6 hx hn hch hc6
  go_wp2
  refine bodyPost_ret (results_cell_row (P := Tryd.prog) rfl _ _ w.heap.size 67 #[.int .i64 a2, .int .i64 s0_1, .int .i64 0, .string ⟨#[]⟩, .slice none 0 0, .slice none 0 0] (0, 0) _ rfl (pset6 HX6.out _ _ _ _ _ _) Tryd.underlying67 rfl info67w) rfl ?_
  exact ⟨_, _, rfl, R67_nil _ _ _, R67_nil _ _ _, doc_end HI.out HB.out HI6.out HC6.out _ _ _ _ _ _⟩
 ·rw [if_neg c4] at h
  have c4b0 : decide ((wrap64 ((s0_0.size : Int) - s0_1)) < (a1.size : Int)) = false := decide_eq_false c4
  by_cases c17 : 0 ≤ s0_1
  ·rw [if_pos c17] at h
   by_cases c18 : s0_1 ≤ (wrap64 (s0_1 + (a1.size : Int)))
   ·rw [if_pos c18] at h
    by_cases c19 : (wrap64 (s0_1 + (a1.size : Int))) ≤ (s0_0.size : Int)
    ·rw [if_pos c19] at h
     have c17b0 := eq_true c17
     have c18b0 := eq_true c18
     have c19b0 := eq_true c19
     clear c4 c17 c18 c19
     by_cases c20 : (s0_0.extract (s0_1 : Int).toNat ((wrap64 (s0_1 + (a1.size : Int))) : Int).toNat).toList = a1.toList
     ·rw [if_pos c20] at h
      have c20b0 : ((s0_0.extract (s0_1 : Int).toNat ((wrap64 (s0_1 + (a1.size : Int))) : Int).toNat).toList == a1.toList) = true := beq_iff_eq.mpr c20
      have c20b1 : ((s0_0.extract (s0_1 : Int).toNat ((wrap64 (s0_1 + (a1.size : Int))) : Int).toNat).toList != a1.toList) = false := bne_eq_false_iff_eq.mpr c20
      simp only [Option.some.injEq, Prod.mk.injEq] at h
      obtain ⟨rfl, rfl, rfl, rfl, rfl, rfl, rfl, rfl, rfl, rfl⟩ := h
      clear c20
      go_enter Tryd.func46, Tryd.ntmps46
      go_wp2
      refine start_ (n := 33) (S := fun w' => w'.cell? ⟨g, 0, none⟩ = some (.string s0_0) ∧ w'.cell? ⟨g, 1, none⟩ = some (.int .i64 s0_1)) (ds := []) #[false, false, false, false, false, false, false, false, false, false, false, false, false, false, false, false, false, false, false, false, false, false, false, false, false, false, false, false, false, false, false, false, false] (by kernel_rfl) rfl rfl ⟨(by simpa using d0), (by simpa using d1)⟩ (fun hHeld => ?_)
      refine pure_ (i := 0) (N := some 14) (v := ?_) (a' := ?_) #[true, false, false, false, false, false, false, false, false, false, false, false, false, false, false, false, false, false, false, false, false, false, false, false, false, false, false, false, false, false, false, false, false] rfl rfl (by kernel_rfl) (fun _ _ _ h => h) (Or.inl ⟨by rfl, ?_⟩) ?_ ?_
      rotate_left
      ·intro w'
       go_simp
       with_reducible rfl
      rotate_left
      ·simp only [Act.put, yX, yY, yZ, i64_w, i32_w]
       rfl
      refine pure_ (i := 1) (N := some 15) (v := ?_) (a' := ?_) #[true, true, false, false, false, false, false, false, false, false, false, false, false, false, false, false, false, false, false, false, false, false, false, false, false, false, false, false, false, false, false, false, false] rfl rfl (by kernel_rfl) (fun _ _ _ h => h) (Or.inl ⟨by rfl, ?_⟩) ?_ ?_
      rotate_left
      ·intro w'
       go_simp
       with_reducible rfl
      rotate_left
      ·simp only [Act.put, yX, yY, yZ, i64_w, i32_w]
       rfl
      refine pure_ (i := 2) (N := some 16) (v := ?_) (a' := ?_) #[true, true, true, false, false, false, false, false, false, false, false, false, false, false, false, false, false, false, false, false, false, false, false, false, false, false, false, false, false, false, false, false, false] rfl rfl (by kernel_rfl) (fun _ _ _ h => h) (Or.inl ⟨by rfl, ?_⟩) ?_ ?_
      rotate_left
      ·intro w'
       go_simp
       with_reducible rfl
      rotate_left
      ·simp only [Act.put, yX, yY, yZ, i64_w, i32_w]
       rfl
      refine pure_ (i := 5) (N := some 19) (v := ?_) (a' := ?_) #[true, true, true, false, false, true, false, false, false, false, false, false, false, false, false, false, false, false, false, false, false, false, false, false, false, false, false, false, false, false, false, false, false] rfl rfl (by kernel_rfl) (fun _ _ _ h => h) (Or.inl ⟨by rfl, ?_⟩) ?_ ?_
      rotate_left
      ·intro w'
       go_simp
       with_reducible rfl
      rotate_left
      ·simp only [Act.put, yX, yY, yZ, i64_w, i32_w]
       rfl
      refine pure_ (i := 6) (N := some 20) (v := ?_) (a' := ?_) #[true, true, true, false, false, true, true, false, false, false, false, false, false, false, false, false, false, false, false, false, false, false, false, false, false, false, false, false, false, false, false, false, false] rfl rfl (by kernel_rfl) (fun _ _ _ h => h) (Or.inl ⟨by rfl, ?_⟩) ?_ ?_
      rotate_left
      ·intro w'
       go_simp
       with_reducible rfl
      rotate_left
      ·simp only [Act.put, yX, yY, yZ, i64_w, i32_w]
       rfl
      refine pure_ (i := 7) (N := some 21) (v := ?_) (a' := ?_) #[true, true, true, false, false, true, true, true, false, false, false, false, false, false, false, false, false, false, false, false, false, false, false, false, false, false, false, false, false, false, false, false, false] rfl rfl (by kernel_rfl) (fun _ _ _ h => h) (Or.inl ⟨by rfl, ?_⟩) ?_ ?_
      rotate_left
      ·intro w'
       go_simp
       with_reducible rfl
      rotate_left
      ·simp only [Act.put, yX, yY, yZ, i64_w, i32_w]
       rfl
      refine pure_ (i := 10) (N := some 24) (v := ?_) (a' := ?_) #[true, true, true, false, false, true, true, true, false, false, true, false, false, false, false, false, false, false, false, false, false, false, false, false, false, false, false, false, false, false, false, false, false] rfl rfl (by kernel_rfl) (fun _ _ _ h => h) (Or.inl ⟨by rfl, ?_⟩) ?_ ?_
      rotate_left
      ·intro w'
       go_simp
       with_reducible rfl
      rotate_left
      ·simp only [Act.put, yX, yY, yZ, i64_w, i32_w]
       rfl
      refine pure_ (i := 11) (N := some 25) (v := ?_) (a' := ?_) #[true, true, true, false, false, true, true, true, false, false, true, true, false, false, false, false, false, false, false, false, false, false, false, false, false, false, false, false, false, false, false, false, false] rfl rfl (by kernel_rfl) (fun _ _ _ h => h) (Or.inl ⟨by rfl, ?_⟩) ?_ ?_
      rotate_left
      ·intro w'
       go_simp
       with_reducible rfl
      rotate_left
      ·simp only [Act.put, yX, yY, yZ, i64_w, i32_w]
       rfl
      refine take_ (i := 3) (N := some 17) (v := ?_) (a' := ?_) #[true, true, true, true, false, true, true, true, false, false, true, true, false, false, false, false, false, false, false, false, false, false, false, false, false, false, false, false, false, false, false, false, false] rfl rfl (by kernel_rfl) (fun _ _ _ h => h) (Or.inl ⟨by rfl, ?_⟩) hHeld ?_ ?_
      rotate_left
      ·rintro w' ⟨s0, s1⟩
       go_simp
       with_reducible rfl
      rotate_left
      ·simp only [Act.put, yX, yY, yZ, i64_w, i32_w]
       rfl
      refine pure_ (i := 4) (N := some 18) (v := ?_) (a' := ?_) #[true, true, true, true, true, true, true, true, false, false, true, true, false, false, false, false, false, false, false, false, false, false, false, false, false, false, false, false, false, false, false, false, false] rfl rfl (by kernel_rfl) (fun _ _ _ h => h) (Or.inl ⟨by rfl, ?_⟩) ?_ ?_
      rotate_left
      ·intro w'
       go_simp
       with_reducible rfl
      rotate_left
      ·simp only [Act.put, yX, yY, yZ, i64_w, i32_w]
       rfl
      refine take_ (i := 8) (N := some 22) (v := ?_) (a' := ?_) #[true, true, true, true, true, true, true, true, true, false, true, true, false, false, false, false, false, false, false, false, false, false, false, false, false, false, false, false, false, false, false, false, false] rfl rfl (by kernel_rfl) (fun _ _ _ h => h) (Or.inl ⟨by rfl, ?_⟩) hHeld ?_ ?_
      rotate_left
      ·rintro w' ⟨s0, s1⟩
       go_simp
       with_reducible rfl
      rotate_left
      ·simp only [Act.put, yX, yY, yZ, i64_w, i32_w]
       rfl
      refine pure_ (i := 9) (N := some 23) (v := ?_) (a' := ?_) #[true, true, true, true, true, true, true, true, true, true, true, true, false, false, false, false, false, false, false, false, false, false, false, false, false, false, false, false, false, false, false, false, false] rfl rfl (by kernel_rfl) (fun _ _ _ h => h) (Or.inl ⟨by rfl, ?_⟩) ?_ ?_
      rotate_left
      ·intro w'
       go_simp
       with_reducible rfl
      rotate_left
      ·simp only [Act.put, yX, yY, yZ, i64_w, i32_w]
       rfl
      refine pure_ (i := 12) (N := some 26) (v := ?_) (a' := ?_) #[true, true, true, true, true, true, true, true, true, true, true, true, true, false, false, false, false, false, false, false, false, false, false, false, false, false, false, false, false, false, false, false, false] rfl rfl (by kernel_rfl) (fun _ _ _ h => h) (Or.inl ⟨by rfl, ?_⟩) ?_ ?_
      rotate_left
      ·intro w'
       go_simp
       with_reducible rfl
      rotate_left
      ·simp only [Act.put, yX, yY, yZ, i64_w, i32_w]
       rfl
      refine pure_ (i := 13) (N := some 27) (v := ?_) (a' := ?_) #[true, true, true, true, true, true, true, true, true, true, true, true, true, true, false, false, false, false, false, false, false, false, false, false, false, false, false, false, false, false, false, false, false] rfl rfl (by kernel_rfl) (fun _ _ _ h => h) (Or.inl ⟨by rfl, ?_⟩) ?_ ?_
      rotate_left
      ·intro w'
       go_simp
       with_reducible rfl
      rotate_left
      ·simp only [Act.put, yX, yY, yZ, i64_w, i32_w]
       rfl
      refine pure_ (i := 14) (N := some 28) (v := ?_) (a' := ?_) #[true, true, true, true, true, true, true, true, true, true, true, true, true, true, true, false, false, false, false, false, false, false, false, false, false, false, false, false, false, false, false, false, false] rfl rfl (by kernel_rfl) (fun _ _ _ h => h) (Or.inl ⟨by rfl, ?_⟩) ?_ ?_
      rotate_left
      ·intro w'
       go_simp
       with_reducible rfl
      rotate_left
      ·simp only [Act.put, yX, yY, yZ, i64_w, i32_w]
       rfl
      refine pure_ (i := 15) (N := some 29) (v := ?_) (a' := ?_) #[true, true, true, true, true, true, true, true, true, true, true, true, true, true, true, true, false, false, false, false, false, false, false, false, false, false, false, false, false, false, false, false, false] rfl rfl (by kernel_rfl) (fun _ _ _ h => h) (Or.inl ⟨by rfl, ?_⟩) ?_ ?_
      rotate_left
      ·intro w'
       go_simp
       with_reducible rfl
      rotate_left
      ·simp only [Act.put, yX, yY, yZ, i64_w, i32_w]
       rfl
      refine pure_ (i := 16) (N := some 30) (v := ?_) (a' := ?_) #[true, true, true, true, true, true, true, true, true, true, true, true, true, true, true, true, true, false, false, false, false, false, false, false, false, false, false, false, false, false, false, false, false] rfl rfl (by kernel_rfl) (fun _ _ _ h => h) (Or.inl ⟨by rfl, ?_⟩) ?_ ?_
      rotate_left
      ·intro w'
       go_simp
       with_reducible rfl
      rotate_left
      ·simp only [Act.put, yX, yY, yZ, i64_w, i32_w]
       rfl
      refine pure_ (i := 18) (N := some 32) (v := ?_) (a' := ?_) #[true, true, true, true, true, true, true, true, true, true, true, true, true, true, true, true, true, false, true, false, false, false, false, false, false, false, false, false, false, false, false, false, false] rfl rfl (by kernel_rfl) (fun _ _ _ h => h) (Or.inl ⟨by rfl, ?_⟩) ?_ ?_
      rotate_left
      ·intro w'
       go_simp
       with_reducible rfl
      rotate_left
      ·simp only [Act.put, yX, yY, yZ, i64_w, i32_w]
       rfl
      refine pure_ (i := 19) (N := some 33) (v := ?_) (a' := ?_) #[true, true, true, true, true, true, true, true, true, true, true, true, true, true, true, true, true, false, true, true, false, false, false, false, false, false, false, false, false, false, false, false, false] rfl rfl (by kernel_rfl) (fun _ _ _ h => h) (Or.inl ⟨by rfl, ?_⟩) ?_ ?_
      rotate_left
      ·intro w'
       go_simp
       with_reducible rfl
      rotate_left
      ·simp only [Act.put, yX, yY, yZ, i64_w, i32_w]
       rfl
      refine pure_ (i := 20) (N := some 34) (v := ?_) (a' := ?_) #[true, true, true, true, true, true, true, true, true, true, true, true, true, true, true, true, true, false, true, true, true, false, false, false, false, false, false, false, false, false, false, false, false] rfl rfl (by kernel_rfl) (fun _ _ _ h => h) (Or.inl ⟨by rfl, ?_⟩) ?_ ?_
      rotate_left
      ·intro w'
       go_simp
       with_reducible rfl
      rotate_left
      ·simp only [Act.put, yX, yY, yZ, i64_w, i32_w]
       rfl
      refine pure_ (i := 22) (N := some 36) (v := ?_) (a' := ?_) #[true, true, true, true, true, true, true, true, true, true, true, true, true, true, true, true, true, false, true, true, true, false, true, false, false, false, false, false, false, false, false, false, false] rfl rfl (by kernel_rfl) (fun _ _ _ h => h) (Or.inl ⟨by rfl, ?_⟩) ?_ ?_
      rotate_left
      ·intro w'
       go_simp
       with_reducible rfl
      rotate_left
      ·simp only [Act.put, yX, yY, yZ, i64_w, i32_w]
       rfl
      refine pure_ (i := 23) (N := some 37) (v := ?_) (a' := ?_) #[true, true, true, true, true, true, true, true, true, true, true, true, true, true, true, true, true, false, true, true, true, false, true, true, false, false, false, false, false, false, false, false, false] rfl rfl (by kernel_rfl) (fun _ _ _ h => h) (Or.inl ⟨by rfl, ?_⟩) ?_ ?_
      rotate_left
      ·intro w'
       go_simp
       with_reducible rfl
      rotate_left
      ·simp only [Act.put, yX, yY, yZ, i64_w, i32_w]
       rfl
      refine pure_ (i := 24) (N := some 38) (v := ?_) (a' := ?_) #[true, true, true, true, true, true, true, true, true, true, true, true, true, true, true, true, true, false, true, true, true, false, true, true, true, false, false, false, false, false, false, false, false] rfl rfl (by kernel_rfl) (fun _ _ _ h => h) (Or.inl ⟨by rfl, ?_⟩) ?_ ?_
      rotate_left
      ·intro w'
       go_simp
       with_reducible rfl
      rotate_left
      ·simp only [Act.put, yX, yY, yZ, i64_w, i32_w]
       rfl
      refine pure_ (i := 26) (N := some 40) (v := ?_) (a' := ?_) #[true, true, true, true, true, true, true, true, true, true, true, true, true, true, true, true, true, false, true, true, true, false, true, true, true, false, true, false, false, false, false, false, false] rfl rfl (by kernel_rfl) (fun _ _ _ h => h) (Or.inl ⟨by rfl, ?_⟩) ?_ ?_
      rotate_left
      ·intro w'
       go_simp
       with_reducible rfl
      rotate_left
      ·simp only [Act.put, yX, yY, yZ, i64_w, i32_w]
       rfl
      refine pure_ (i := 27) (N := some 41) (v := ?_) (a' := ?_) #[true, true, true, true, true, true, true, true, true, true, true, true, true, true, true, true, true, false, true, true, true, false, true, true, true, false, true, true, false, false, false, false, false] rfl rfl (by kernel_rfl) (fun _ _ _ h => h) (Or.inl ⟨by rfl, ?_⟩) ?_ ?_
      rotate_left
      ·intro w'
       go_simp
       with_reducible rfl
      rotate_left
      ·simp only [Act.put, yX, yY, yZ, i64_w, i32_w]
       rfl
      refine pure_ (i := 30) (N := some 44) (v := ?_) (a' := ?_) #[true, true, true, true, true, true, true, true, true, true, true, true, true, true, true, true, true, false, true, true, true, false, true, true, true, false, true, true, false, false, true, false, false] rfl rfl (by kernel_rfl) (fun _ _ _ h => h) (Or.inl ⟨by rfl, ?_⟩) ?_ ?_
      rotate_left
      ·intro w'
       go_simp
       with_reducible rfl
      rotate_left
      ·simp only [Act.put, yX, yY, yZ, i64_w, i32_w]
       rfl
      refine take_ (i := 17) (N := some 31) (v := ?_) (a' := ?_) #[true, true, true, true, true, true, true, true, true, true, true, true, true, true, true, true, true, true, true, true, true, false, true, true, true, false, true, true, false, false, true, false, false] rfl rfl (by kernel_rfl) (fun _ _ _ h => h) (Or.inl ⟨by rfl, ?_⟩) hHeld ?_ ?_
      rotate_left
      ·rintro w' ⟨s0, s1⟩
       go_simp
       with_reducible rfl
      rotate_left
      ·simp only [Act.put, yX, yY, yZ, i64_w, i32_w]
       rfl
      refine take_ (i := 21) (N := some 35) (v := ?_) (a' := ?_) #[true, true, true, true, true, true, true, true, true, true, true, true, true, true, true, true, true, true, true, true, true, true, true, true, true, false, true, true, false, false, true, false, false] rfl rfl (by kernel_rfl) (fun _ _ _ h => h) (Or.inl ⟨by rfl, ?_⟩) hHeld ?_ ?_
      rotate_left
      ·rintro w' ⟨s0, s1⟩
       go_simp
       with_reducible rfl
      rotate_left
      ·simp only [Act.put, yX, yY, yZ, i64_w, i32_w]
       rfl
      refine take_ (i := 25) (N := some 39) (v := ?_) (a' := ?_) #[true, true, true, true, true, true, true, true, true, true, true, true, true, true, true, true, true, true, true, true, true, true, true, true, true, true, true, true, false, false, true, false, false] rfl rfl (by kernel_rfl) (fun _ _ _ h => h) (Or.inl ⟨by rfl, ?_⟩) hHeld ?_ ?_
      rotate_left
      ·rintro w' ⟨s0, s1⟩
       go_simp
       with_reducible rfl
      rotate_left
      ·simp only [Act.put, yX, yY, yZ, i64_w, i32_w]
       rfl
      refine pure_ (i := 28) (N := some 42) (v := ?_) (a' := ?_) #[true, true, true, true, true, true, true, true, true, true, true, true, true, true, true, true, true, true, true, true, true, true, true, true, true, true, true, true, true, false, true, false, false] rfl rfl (by kernel_rfl) (fun _ _ _ h => h) (Or.inl ⟨by rfl, ?_⟩) ?_ ?_
      rotate_left
      ·intro w'
       go_simp
       with_reducible rfl
      rotate_left
      ·simp only [Act.put, yX, yY, yZ, i64_w, i32_w]
       rfl
      refine pure_ (i := 29) (N := some 43) (v := ?_) (a' := ?_) #[true, true, true, true, true, true, true, true, true, true, true, true, true, true, true, true, true, true, true, true, true, true, true, true, true, true, true, true, true, true, true, false, false] rfl rfl (by kernel_rfl) (fun _ _ _ h => h) (Or.inl ⟨by rfl, ?_⟩) ?_ ?_
      rotate_left
      ·intro w'
       go_simp
       with_reducible rfl
      rotate_left
      ·simp only [Act.put, yX, yY, yZ, i64_w, i32_w]
       rfl
      refine pure_ (i := 31) (N := some 45) (v := ?_) (a' := ?_) #[true, true, true, true, true, true, true, true, true, true, true, true, true, true, true, true, true, true, true, true, true, true, true, true, true, true, true, true, true, true, true, true, false] rfl rfl (by kernel_rfl) (fun _ _ _ h => h) (Or.inl ⟨by rfl, ?_⟩) ?_ ?_
      rotate_left
      ·intro w'
       go_simp
       with_reducible rfl
      rotate_left
      ·simp only [Act.put, yX, yY, yZ, i64_w, i32_w]
       rfl
      refine pure_ (i := 32) (N := some 46) (v := ?_) (a' := ?_) #[true, true, true, true, true, true, true, true, true, true, true, true, true, true, true, true, true, true, true, true, true, true, true, true, true, true, true, true, true, true, true, true, true] rfl rfl (by kernel_rfl) (fun _ _ _ h => h) (Or.inl ⟨by rfl, ?_⟩) ?_ ?_
      rotate_left
      ·intro w'
       go_simp
       with_reducible rfl
      rotate_left
      ·simp only [Act.put, yX, yY, yZ, i64_w, i32_w]
       rfl
      refine done_ (by kernel_rfl) ?_
      obtain ⟨w5, hw5⟩ : ∃ w5, w5 = ((w.alloc (.cells #[.int .i64 0, .int .i64 0, .int .i64 0, .string ⟨#[]⟩, .slice none 0 0, .slice none 0 0] 67)).alloc (.cells #[.int .i64 a2, .int .i64 s0_1, .int .i64 0, .string ⟨#[]⟩, .slice none 0 0, .slice none 0 0] 67)).drew := ⟨_, rfl⟩
      have HI5 := yM (show IsS79 w0 w5 g s0_0 s0_1 s0_2 s0_3 from hw5 ▸ HI2.out.drew)
      have HC5 := yM (show Ch (· = g) (w.alloc (.cells #[.int .i64 0, .int .i64 0, .int .i64 0, .string ⟨#[]⟩, .slice none 0 0, .slice none 0 0] 67)) w5 from hw5 ▸ HC2.out.drew)
      have HX5 := yM (show w5.heap[w.heap.size]? = some (.cells #[.int .i64 0, .int .i64 0, .int .i64 0, .string ⟨#[]⟩, .slice none 0 0, .slice none 0 0] 67 (0, 0)) from hw5 ▸ HX2.out)
      have HN5 := yM (show w5.heap[w.heap.size + 1]? = some (.cells #[.int .i64 a2, .int .i64 s0_1, .int .i64 0, .string ⟨#[]⟩, .slice none 0 0, .slice none 0 0] 67 (0, 0)) from hw5 ▸ HN2.out)
      rw [← hw5]
      clear hHeld hw5 d0 d1 d2 d3 df dl c0 c1 c2 c3 cf HI2 HC2 HX2 HN2 HB2 c20b0 c20b1
      obtain ⟨d0, d1, d2, d3, df, dl⟩ := s4 HI5.out
      obtain ⟨y0, y1, y2, y3, y4, y5, yf, yl⟩ := c6 HX5.out
      obtain ⟨z0, z1, z2, z3, z4, z5, zf, zl⟩ := c6 HN5.out
      have nn : w.heap.size ≠ w.heap.size + 1 := by omega
      have nn' : w.heap.size + 1 ≠ w.heap.size := by omega
      obtain ⟨xe, hxe⟩ : ∃ xe, xe = wrap64 (s0_1 + (a1.size : Int)) := ⟨_, rfl⟩
      rw [← hxe] at c18b0 c19b0 ⊢
      have hxe' := hxe.symm
      have HXE := yM hxe
      clear hxe
      go_wp2
      have hX9 : ((w5.setCell ⟨g, 1, none⟩ (.int .i64 xe)).setCell ⟨w.heap.size + 1, 2, none⟩ (.int .i64 xe)).heap[w.heap.size]? = some (.cells #[.int .i64 0, .int .i64 0, .int .i64 0, .string ⟨#[]⟩, .slice none 0 0, .slice none 0 0] 67 (0, 0)) := bx_st (bx_st HX5.out n2 1 _) nn 2 _
      refine bodyPost_ret (results_cell_row (P := Tryd.prog) rfl _ _ w.heap.size 67 #[.int .i64 a2, .int .i64 s0_1, .int .i64 xe, .string ⟨#[]⟩, .slice none 0 0, .slice none 0 0] (0, 0) _ rfl (pset6 hX9 _ _ _ _ _ _) Tryd.underlying67 rfl info67w) rfl ?_
      have hI9 : IsS79 w0 ((w5.setCell ⟨g, 1, none⟩ (.int .i64 xe)).setCell ⟨w.heap.size + 1, 2, none⟩ (.int .i64 xe)) g s0_0 xe s0_2 s0_3 := (HI5.out.set_1 xe).far n3 _
      have hC9 : Ch (· = g) (w.alloc (.cells #[.int .i64 0, .int .i64 0, .int .i64 0, .string ⟨#[]⟩, .slice none 0 0, .slice none 0 0] 67)) ((w5.setCell ⟨g, 1, none⟩ (.int .i64 xe)).setCell ⟨w.heap.size + 1, 2, none⟩ (.int .i64 xe)) := (HC5.out.set (fun _ => rfl) _).set (fun h => by simp at h) _
      have he := doc_end HI.out HB.out hI9 hC9 (.int .i64 a2) (.int .i64 s0_1) (.int .i64 xe) (.string ⟨#[]⟩) (.slice none 0 0) (.slice none 0 0)
      clear hxe'
      have e := HXE.out
      subst e
      exact ⟨_, _, rfl, R67_nil _ _ _, R67_nil _ _ _, he⟩
     ·rw [if_neg c20] at h
      have c20b0 : ((s0_0.extract (s0_1 : Int).toNat ((wrap64 (s0_1 + (a1.size : Int))) : Int).toNat).toList == a1.toList) = false := yB c20
      have c20b1 : ((s0_0.extract (s0_1 : Int).toNat ((wrap64 (s0_1 + (a1.size : Int))) : Int).toNat).toList != a1.toList) = true := bne_iff_ne.mpr c20
      obtain ⟨⟨t7, t8, t9, t10⟩, A50, h⟩ := yO h
      have A5 := yM A50
      simp only [Option.some.injEq, Prod.mk.injEq] at h
      obtain ⟨rfl, rfl, rfl, rfl, rfl, rfl, rfl, rfl, rfl, rfl⟩ := h
      clear c20 A50
      go_enter Tryd.func46, Tryd.ntmps46
      go_wp2
      refine start_ (n := 33) (S := fun w' => w'.cell? ⟨g, 0, none⟩ = some (.string s0_0) ∧ w'.cell? ⟨g, 1, none⟩ = some (.int .i64 s0_1)) (ds := []) #[false, false, false, false, false, false, false, false, false, false, false, false, false, false, false, false, false, false, false, false, false, false, false, false, false, false, false, false, false, false, false, false, false] (by kernel_rfl) rfl rfl ⟨(by simpa using d0), (by simpa using d1)⟩ (fun hHeld => ?_)
      refine pure_ (i := 0) (N := some 14) (v := ?_) (a' := ?_) #[true, false, false, false, false, false, false, false, false, false, false, false, false, false, false, false, false, false, false, false, false, false, false, false, false, false, false, false, false, false, false, false, false] rfl rfl (by kernel_rfl) (fun _ _ _ h => h) (Or.inl ⟨by rfl, ?_⟩) ?_ ?_
      rotate_left
      ·intro w'
       go_simp
       with_reducible rfl
      rotate_left
      ·simp only [Act.put, yX, yY, yZ, i64_w, i32_w]
       rfl
      refine pure_ (i := 1) (N := some 15) (v := ?_) (a' := ?_) #[true, true, false, false, false, false, false, false, false, false, false, false, false, false, false, false, false, false, false, false, false, false, false, false, false, false, false, false, false, false, false, false, false] rfl rfl (by kernel_rfl) (fun _ _ _ h => h) (Or.inl ⟨by rfl, ?_⟩) ?_ ?_
      rotate_left
      ·intro w'
       go_simp
       with_reducible rfl
      rotate_left
      ·simp only [Act.put, yX, yY, yZ, i64_w, i32_w]
       rfl
      refine pure_ (i := 2) (N := some 16) (v := ?_) (a' := ?_) #[true, true, true, false, false, false, false, false, false, false, false, false, false, false, false, false, false, false, false, false, false, false, false, false, false, false, false, false, false, false, false, false, false] rfl rfl (by kernel_rfl) (fun _ _ _ h => h) (Or.inl ⟨by rfl, ?_⟩) ?_ ?_
      rotate_left
      ·intro w'
       go_simp
       with_reducible rfl
      rotate_left
      ·simp only [Act.put, yX, yY, yZ, i64_w, i32_w]
       rfl
      refine pure_ (i := 5) (N := some 19) (v := ?_) (a' := ?_) #[true, true, true, false, false, true, false, false, false, false, false, false, false, false, false, false, false, false, false, false, false, false, false, false, false, false, false, false, false, false, false, false, false] rfl rfl (by kernel_rfl) (fun _ _ _ h => h) (Or.inl ⟨by rfl, ?_⟩) ?_ ?_
      rotate_left
      ·intro w'
       go_simp
       with_reducible rfl
      rotate_left
      ·simp only [Act.put, yX, yY, yZ, i64_w, i32_w]
       rfl
      refine pure_ (i := 6) (N := some 20) (v := ?_) (a' := ?_) #[true, true, true, false, false, true, true, false, false, false, false, false, false, false, false, false, false, false, false, false, false, false, false, false, false, false, false, false, false, false, false, false, false] rfl rfl (by kernel_rfl) (fun _ _ _ h => h) (Or.inl ⟨by rfl, ?_⟩) ?_ ?_
      rotate_left
      ·intro w'
       go_simp
       with_reducible rfl
      rotate_left
      ·simp only [Act.put, yX, yY, yZ, i64_w, i32_w]
       rfl
      refine pure_ (i := 7) (N := some 21) (v := ?_) (a' := ?_) #[true, true, true, false, false, true, true, true, false, false, false, false, false, false, false, false, false, false, false, false, false, false, false, false, false, false, false, false, false, false, false, false, false] rfl rfl (by kernel_rfl) (fun _ _ _ h => h) (Or.inl ⟨by rfl, ?_⟩) ?_ ?_
      rotate_left
      ·intro w'
       go_simp
       with_reducible rfl
      rotate_left
      ·simp only [Act.put, yX, yY, yZ, i64_w, i32_w]
       rfl
      refine pure_ (i := 10) (N := some 24) (v := ?_) (a' := ?_) #[true, true, true, false, false, true, true, true, false, false, true, false, false, false, false, false, false, false, false, false, false, false, false, false, false, false, false, false, false, false, false, false, false] rfl rfl (by kernel_rfl) (fun _ _ _ h => h) (Or.inl ⟨by rfl, ?_⟩) ?_ ?_
      rotate_left
      ·intro w'
       go_simp
       with_reducible rfl
      rotate_left
      ·simp only [Act.put, yX, yY, yZ, i64_w, i32_w]
       rfl
      refine pure_ (i := 11) (N := some 25) (v := ?_) (a' := ?_) #[true, true, true, false, false, true, true, true, false, false, true, true, false, false, false, false, false, false, false, false, false, false, false, false, false, false, false, false, false, false, false, false, false] rfl rfl (by kernel_rfl) (fun _ _ _ h => h) (Or.inl ⟨by rfl, ?_⟩) ?_ ?_
      rotate_left
      ·intro w'
       go_simp
       with_reducible rfl
      rotate_left
      ·simp only [Act.put, yX, yY, yZ, i64_w, i32_w]
       rfl
      refine take_ (i := 3) (N := some 17) (v := ?_) (a' := ?_) #[true, true, true, true, false, true, true, true, false, false, true, true, false, false, false, false, false, false, false, false, false, false, false, false, false, false, false, false, false, false, false, false, false] rfl rfl (by kernel_rfl) (fun _ _ _ h => h) (Or.inl ⟨by rfl, ?_⟩) hHeld ?_ ?_
      rotate_left
      ·rintro w' ⟨s0, s1⟩
       go_simp
       with_reducible rfl
      rotate_left
      ·simp only [Act.put, yX, yY, yZ, i64_w, i32_w]
       rfl
      refine pure_ (i := 4) (N := some 18) (v := ?_) (a' := ?_) #[true, true, true, true, true, true, true, true, false, false, true, true, false, false, false, false, false, false, false, false, false, false, false, false, false, false, false, false, false, false, false, false, false] rfl rfl (by kernel_rfl) (fun _ _ _ h => h) (Or.inl ⟨by rfl, ?_⟩) ?_ ?_
      rotate_left
      ·intro w'
       go_simp
       with_reducible rfl
      rotate_left
      ·simp only [Act.put, yX, yY, yZ, i64_w, i32_w]
       rfl
      refine take_ (i := 8) (N := some 22) (v := ?_) (a' := ?_) #[true, true, true, true, true, true, true, true, true, false, true, true, false, false, false, false, false, false, false, false, false, false, false, false, false, false, false, false, false, false, false, false, false] rfl rfl (by kernel_rfl) (fun _ _ _ h => h) (Or.inl ⟨by rfl, ?_⟩) hHeld ?_ ?_
      rotate_left
      ·rintro w' ⟨s0, s1⟩
       go_simp
       with_reducible rfl
      rotate_left
      ·simp only [Act.put, yX, yY, yZ, i64_w, i32_w]
       rfl
      refine pure_ (i := 9) (N := some 23) (v := ?_) (a' := ?_) #[true, true, true, true, true, true, true, true, true, true, true, true, false, false, false, false, false, false, false, false, false, false, false, false, false, false, false, false, false, false, false, false, false] rfl rfl (by kernel_rfl) (fun _ _ _ h => h) (Or.inl ⟨by rfl, ?_⟩) ?_ ?_
      rotate_left
      ·intro w'
       go_simp
       with_reducible rfl
      rotate_left
      ·simp only [Act.put, yX, yY, yZ, i64_w, i32_w]
       rfl
      refine pure_ (i := 12) (N := some 26) (v := ?_) (a' := ?_) #[true, true, true, true, true, true, true, true, true, true, true, true, true, false, false, false, false, false, false, false, false, false, false, false, false, false, false, false, false, false, false, false, false] rfl rfl (by kernel_rfl) (fun _ _ _ h => h) (Or.inl ⟨by rfl, ?_⟩) ?_ ?_
      rotate_left
      ·intro w'
       go_simp
       with_reducible rfl
      rotate_left
      ·simp only [Act.put, yX, yY, yZ, i64_w, i32_w]
       rfl
      refine pure_ (i := 13) (N := some 27) (v := ?_) (a' := ?_) #[true, true, true, true, true, true, true, true, true, true, true, true, true, true, false, false, false, false, false, false, false, false, false, false, false, false, false, false, false, false, false, false, false] rfl rfl (by kernel_rfl) (fun _ _ _ h => h) (Or.inl ⟨by rfl, ?_⟩) ?_ ?_
      rotate_left
      ·intro w'
       go_simp
       with_reducible rfl
      rotate_left
      ·simp only [Act.put, yX, yY, yZ, i64_w, i32_w]
       rfl
      refine pure_ (i := 14) (N := some 28) (v := ?_) (a' := ?_) #[true, true, true, true, true, true, true, true, true, true, true, true, true, true, true, false, false, false, false, false, false, false, false, false, false, false, false, false, false, false, false, false, false] rfl rfl (by kernel_rfl) (fun _ _ _ h => h) (Or.inl ⟨by rfl, ?_⟩) ?_ ?_
      rotate_left
      ·intro w'
       go_simp
       with_reducible rfl
      rotate_left
      ·simp only [Act.put, yX, yY, yZ, i64_w, i32_w]
       rfl
      refine pure_ (i := 15) (N := some 29) (v := ?_) (a' := ?_) #[true, true, true, true, true, true, true, true, true, true, true, true, true, true, true, true, false, false, false, false, false, false, false, false, false, false, false, false, false, false, false, false, false] rfl rfl (by kernel_rfl) (fun _ _ _ h => h) (Or.inl ⟨by rfl, ?_⟩) ?_ ?_
      rotate_left
      ·intro w'
       go_simp
       with_reducible rfl
      rotate_left
      ·simp only [Act.put, yX, yY, yZ, i64_w, i32_w]
       rfl
      refine pure_ (i := 16) (N := some 30) (v := ?_) (a' := ?_) #[true, true, true, true, true, true, true, true, true, true, true, true, true, true, true, true, true, false, false, false, false, false, false, false, false, false, false, false, false, false, false, false, false] rfl rfl (by kernel_rfl) (fun _ _ _ h => h) (Or.inl ⟨by rfl, ?_⟩) ?_ ?_
      rotate_left
      ·intro w'
       go_simp
       with_reducible rfl
      rotate_left
      ·simp only [Act.put, yX, yY, yZ, i64_w, i32_w]
       rfl
      refine pure_ (i := 18) (N := some 32) (v := ?_) (a' := ?_) #[true, true, true, true, true, true, true, true, true, true, true, true, true, true, true, true, true, false, true, false, false, false, false, false, false, false, false, false, false, false, false, false, false] rfl rfl (by kernel_rfl) (fun _ _ _ h => h) (Or.inl ⟨by rfl, ?_⟩) ?_ ?_
      rotate_left
      ·intro w'
       go_simp
       with_reducible rfl
      rotate_left
      ·simp only [Act.put, yX, yY, yZ, i64_w, i32_w]
       rfl
      refine pure_ (i := 19) (N := some 33) (v := ?_) (a' := ?_) #[true, true, true, true, true, true, true, true, true, true, true, true, true, true, true, true, true, false, true, true, false, false, false, false, false, false, false, false, false, false, false, false, false] rfl rfl (by kernel_rfl) (fun _ _ _ h => h) (Or.inl ⟨by rfl, ?_⟩) ?_ ?_
      rotate_left
      ·intro w'
       go_simp
       with_reducible rfl
      rotate_left
      ·simp only [Act.put, yX, yY, yZ, i64_w, i32_w]
       rfl
      refine pure_ (i := 20) (N := some 34) (v := ?_) (a' := ?_) #[true, true, true, true, true, true, true, true, true, true, true, true, true, true, true, true, true, false, true, true, true, false, false, false, false, false, false, false, false, false, false, false, false] rfl rfl (by kernel_rfl) (fun _ _ _ h => h) (Or.inl ⟨by rfl, ?_⟩) ?_ ?_
      rotate_left
      ·intro w'
       go_simp
       with_reducible rfl
      rotate_left
      ·simp only [Act.put, yX, yY, yZ, i64_w, i32_w]
       rfl
      refine pure_ (i := 22) (N := some 36) (v := ?_) (a' := ?_) #[true, true, true, true, true, true, true, true, true, true, true, true, true, true, true, true, true, false, true, true, true, false, true, false, false, false, false, false, false, false, false, false, false] rfl rfl (by kernel_rfl) (fun _ _ _ h => h) (Or.inl ⟨by rfl, ?_⟩) ?_ ?_
      rotate_left
      ·intro w'
       go_simp
       with_reducible rfl
      rotate_left
      ·simp only [Act.put, yX, yY, yZ, i64_w, i32_w]
       rfl
      refine pure_ (i := 23) (N := some 37) (v := ?_) (a' := ?_) #[true, true, true, true, true, true, true, true, true, true, true, true, true, true, true, true, true, false, true, true, true, false, true, true, false, false, false, false, false, false, false, false, false] rfl rfl (by kernel_rfl) (fun _ _ _ h => h) (Or.inl ⟨by rfl, ?_⟩) ?_ ?_
      rotate_left
      ·intro w'
       go_simp
       with_reducible rfl
      rotate_left
      ·simp only [Act.put, yX, yY, yZ, i64_w, i32_w]
       rfl
      refine pure_ (i := 24) (N := some 38) (v := ?_) (a' := ?_) #[true, true, true, true, true, true, true, true, true, true, true, true, true, true, true, true, true, false, true, true, true, false, true, true, true, false, false, false, false, false, false, false, false] rfl rfl (by kernel_rfl) (fun _ _ _ h => h) (Or.inl ⟨by rfl, ?_⟩) ?_ ?_
      rotate_left
      ·intro w'
       go_simp
       with_reducible rfl
      rotate_left
      ·simp only [Act.put, yX, yY, yZ, i64_w, i32_w]
       rfl
      refine pure_ (i := 26) (N := some 40) (v := ?_) (a' := ?_) #[true, true, true, true, true, true, true, true, true, true, true, true, true, true, true, true, true, false, true, true, true, false, true, true, true, false, true, false, false, false, false, false, false] rfl rfl (by kernel_rfl) (fun _ _ _ h => h) (Or.inl ⟨by rfl, ?_⟩) ?_ ?_
      rotate_left
      ·intro w'
       go_simp
       with_reducible rfl
      rotate_left
      ·simp only [Act.put, yX, yY, yZ, i64_w, i32_w]
       rfl
      refine pure_ (i := 27) (N := some 41) (v := ?_) (a' := ?_) #[true, true, true, true, true, true, true, true, true, true, true, true, true, true, true, true, true, false, true, true, true, false, true, true, true, false, true, true, false, false, false, false, false] rfl rfl (by kernel_rfl) (fun _ _ _ h => h) (Or.inl ⟨by rfl, ?_⟩) ?_ ?_
      rotate_left
      ·intro w'
       go_simp
       with_reducible rfl
      rotate_left
      ·simp only [Act.put, yX, yY, yZ, i64_w, i32_w]
       rfl
      refine pure_ (i := 30) (N := some 44) (v := ?_) (a' := ?_) #[true, true, true, true, true, true, true, true, true, true, true, true, true, true, true, true, true, false, true, true, true, false, true, true, true, false, true, true, false, false, true, false, false] rfl rfl (by kernel_rfl) (fun _ _ _ h => h) (Or.inl ⟨by rfl, ?_⟩) ?_ ?_
      rotate_left
      ·intro w'
       go_simp
       with_reducible rfl
      rotate_left
      ·simp only [Act.put, yX, yY, yZ, i64_w, i32_w]
       rfl
      refine take_ (i := 17) (N := some 31) (v := ?_) (a' := ?_) #[true, true, true, true, true, true, true, true, true, true, true, true, true, true, true, true, true, true, true, true, true, false, true, true, true, false, true, true, false, false, true, false, false] rfl rfl (by kernel_rfl) (fun _ _ _ h => h) (Or.inl ⟨by rfl, ?_⟩) hHeld ?_ ?_
      rotate_left
      ·rintro w' ⟨s0, s1⟩
       go_simp
       with_reducible rfl
      rotate_left
      ·simp only [Act.put, yX, yY, yZ, i64_w, i32_w]
       rfl
      refine take_ (i := 21) (N := some 35) (v := ?_) (a' := ?_) #[true, true, true, true, true, true, true, true, true, true, true, true, true, true, true, true, true, true, true, true, true, true, true, true, true, false, true, true, false, false, true, false, false] rfl rfl (by kernel_rfl) (fun _ _ _ h => h) (Or.inl ⟨by rfl, ?_⟩) hHeld ?_ ?_
      rotate_left
      ·rintro w' ⟨s0, s1⟩
       go_simp
       with_reducible rfl
      rotate_left
      ·simp only [Act.put, yX, yY, yZ, i64_w, i32_w]
       rfl
      refine take_ (i := 25) (N := some 39) (v := ?_) (a' := ?_) #[true, true, true, true, true, true, true, true, true, true, true, true, true, true, true, true, true, true, true, true, true, true, true, true, true, true, true, true, false, false, true, false, false] rfl rfl (by kernel_rfl) (fun _ _ _ h => h) (Or.inl ⟨by rfl, ?_⟩) hHeld ?_ ?_
      rotate_left
      ·rintro w' ⟨s0, s1⟩
       go_simp
       with_reducible rfl
      rotate_left
      ·simp only [Act.put, yX, yY, yZ, i64_w, i32_w]
       rfl
      refine pure_ (i := 28) (N := some 42) (v := ?_) (a' := ?_) #[true, true, true, true, true, true, true, true, true, true, true, true, true, true, true, true, true, true, true, true, true, true, true, true, true, true, true, true, true, false, true, false, false] rfl rfl (by kernel_rfl) (fun _ _ _ h => h) (Or.inl ⟨by rfl, ?_⟩) ?_ ?_
      rotate_left
      ·intro w'
       go_simp
       with_reducible rfl
      rotate_left
      ·simp only [Act.put, yX, yY, yZ, i64_w, i32_w]
       rfl
      refine pure_ (i := 29) (N := some 43) (v := ?_) (a' := ?_) #[true, true, true, true, true, true, true, true, true, true, true, true, true, true, true, true, true, true, true, true, true, true, true, true, true, true, true, true, true, true, true, false, false] rfl rfl (by kernel_rfl) (fun _ _ _ h => h) (Or.inl ⟨by rfl, ?_⟩) ?_ ?_
      rotate_left
      ·intro w'
       go_simp
       with_reducible rfl
      rotate_left
      ·simp only [Act.put, yX, yY, yZ, i64_w, i32_w]
       rfl
      refine pure_ (i := 31) (N := some 45) (v := ?_) (a' := ?_) #[true, true, true, true, true, true, true, true, true, true, true, true, true, true, true, true, true, true, true, true, true, true, true, true, true, true, true, true, true, true, true, true, false] rfl rfl (by kernel_rfl) (fun _ _ _ h => h) (Or.inl ⟨by rfl, ?_⟩) ?_ ?_
      rotate_left
      ·intro w'
       go_simp
       with_reducible rfl
      rotate_left
      ·simp only [Act.put, yX, yY, yZ, i64_w, i32_w]
       rfl
      refine pure_ (i := 32) (N := some 46) (v := ?_) (a' := ?_) #[true, true, true, true, true, true, true, true, true, true, true, true, true, true, true, true, true, true, true, true, true, true, true, true, true, true, true, true, true, true, true, true, true] rfl rfl (by kernel_rfl) (fun _ _ _ h => h) (Or.inl ⟨by rfl, ?_⟩) ?_ ?_
      rotate_left
      ·intro w'
       go_simp
       with_reducible rfl
      rotate_left
      ·simp only [Act.put, yX, yY, yZ, i64_w, i32_w]
       rfl
      refine done_ (by kernel_rfl) ?_
      go_wp2_with fail
      refine (T_fail.calls g _ _ _ _ _ _ _ _ _ _ w0 _ HI2.out.drew (Below.drew HB2.out) A5.out).mono ?_
      rintro e w6 ⟨rfl, hi6, hb6, hk6⟩
      have hch := keep_ch (Below.drew HB2.out) hb6 hk6
      have hc6 : Ch (· = g) (w.alloc (.cells #[.int .i64 0, .int .i64 0, .int .i64 0, .string ⟨#[]⟩, .slice none 0 0, .slice none 0 0] 67)) w6 := HC2.out.drew.trans hch
      have hx := box6 hc6 hlt
      have hn := (hch.block (w.heap.size + 1) (by simp) (fun e => by have : w.heap.size + 1 = g := e; omega)).trans (show ((w.alloc (.cells #[.int .i64 0, .int .i64 0, .int .i64 0, .string ⟨#[]⟩, .slice none 0 0, .slice none 0 0] 67)).alloc (.cells #[.int .i64 a2, .int .i64 s0_1, .int .i64 0, .string ⟨#[]⟩, .slice none 0 0, .slice none 0 0] 67)).drew.heap[w.heap.size + 1]? = _ from HN2.out)
      have HI6 := yM hi6
      have HC6 := yM hc6
      have HX6 := yM hx
      obtain ⟨y0, y1, y2, y3, y4, y5, yf, yl⟩ := c6 hx
      obtain ⟨z0, z1, z2, z3, z4, z5, zf, zl⟩ := c6 hn
      clear hi6 hb6 hk6 hx hn hch hc6
      go_wp2
      refine bodyPost_ret (results_cell_row (P := Tryd.prog) rfl _ _ w.heap.size 67 #[.int .i64 a2, .int .i64 s0_1, .int .i64 0, .string ⟨#[]⟩, .slice none 0 0, .slice none 0 0] (0, 0) _ rfl (pset6 HX6.out _ _ _ _ _ _) Tryd.underlying67 rfl info67w) rfl ?_
      exact ⟨_, _, rfl, R67_nil _ _ _, R67_nil _ _ _, doc_end HI.out HB.out HI6.out HC6.out _ _ _ _ _ _⟩
    ·rw [if_neg c19] at h; cases h
   ·rw [if_neg c18] at h; cases h
  ·rw [if_neg c17] at h; cases h
theorem run_keep (s0 : ByteArray) (s1 s2 s3 : Int) : ∀ (k : Nat) (a : Int) r, T_run.l0 k a s0 s1 s2 s3 = some r → r.2 = (s0, s1, s2, s3)
 | 0, a, r, h => by simp [T_run.l0] at h
 | k + 1, a, r, h => by
  unfold T_run.l0 at h
  repeat' split at h
  all_goals first
   | exact run_keep s0 s1 s2 s3 k _ r h
   | (obtain rfl := Option.some.inj h; rfl)
   | cases h
theorem runf_keep {s0 : ByteArray} {s1 s2 s3 : Int} {k : Nat} {a : Int} {r} (h : T_run.f k s0 s1 s2 s3 a = some r) : r.2 = (s0, s1, s2, s3) := run_keep s0 s1 s2 s3 k a r h
theorem number_j7_keep (s0 : ByteArray) (s1 s2 s3 : Int) : ∀ (k : Nat) (x6 : Int) (x7 : Int) r, T_number.j7 k x6 x7 s0 s1 s2 s3 = some r → r.2 = (s0, s1, s2, s3) := by
 intro k x6 x7 r h
 cases k with
 | zero => simp [T_number.j7] at h
 | succ k =>
  unfold T_number.j7 at h
  repeat' first
   | (obtain ⟨⟨q0, q1, q2, q3, q4⟩, hq, h⟩ := yO h; have hk := (runf_keep hq).symm; simp only [Prod.mk.injEq] at hk; obtain ⟨rfl, rfl, rfl, rfl⟩ := hk; dsimp only at h)
   | split at h
  all_goals first
   | (obtain rfl := Option.some.inj h; first | rfl | assumption)
   | cases h
theorem number_j6_keep (s0 : ByteArray) (s1 s2 s3 : Int) : ∀ (k : Nat) (x6 : Int) (x7 : Int) (b : Bool) r, T_number.j6 k x6 x7 b s0 s1 s2 s3 = some r → r.2 = (s0, s1, s2, s3) := by
 intro k x6 x7 b r h
 cases k with
 | zero => simp [T_number.j6] at h
 | succ k =>
  unfold T_number.j6 at h
  repeat' first
   | (obtain ⟨⟨q0, q1, q2, q3, q4⟩, hq, h⟩ := yO h; have hk := (runf_keep hq).symm; simp only [Prod.mk.injEq] at hk; obtain ⟨rfl, rfl, rfl, rfl⟩ := hk; dsimp only at h)
   | split at h
  all_goals first
   | (obtain rfl := Option.some.inj h; first | rfl | assumption)
   | cases h
   | exact number_j7_keep _ _ _ _ _ _ _ r h
theorem number_j5_keep (s0 : ByteArray) (s1 s2 s3 : Int) : ∀ (k : Nat) (x6 : Int) (b : Bool) r, T_number.j5 k x6 b s0 s1 s2 s3 = some r → r.2 = (s0, s1, s2, s3) := by
 intro k x6 b r h
 cases k with
 | zero => simp [T_number.j5] at h
 | succ k =>
  unfold T_number.j5 at h
  repeat' first
   | (obtain ⟨⟨q0, q1, q2, q3, q4⟩, hq, h⟩ := yO h; have hk := (runf_keep hq).symm; simp only [Prod.mk.injEq] at hk; obtain ⟨rfl, rfl, rfl, rfl⟩ := hk; dsimp only at h)
   | split at h
  all_goals first
   | (obtain rfl := Option.some.inj h; first | rfl | assumption)
   | cases h
   | exact number_j7_keep _ _ _ _ _ _ _ r h
   | exact number_j6_keep _ _ _ _ _ _ _ _ r h
theorem number_j4_keep (s0 : ByteArray) (s1 s2 s3 : Int) : ∀ (k : Nat) (x6 : Int) r, T_number.j4 k x6 s0 s1 s2 s3 = some r → r.2 = (s0, s1, s2, s3) := by
 intro k x6 r h
 cases k with
 | zero => simp [T_number.j4] at h
 | succ k =>
  unfold T_number.j4 at h
  repeat' first
   | (obtain ⟨⟨q0, q1, q2, q3, q4⟩, hq, h⟩ := yO h; have hk := (runf_keep hq).symm; simp only [Prod.mk.injEq] at hk; obtain ⟨rfl, rfl, rfl, rfl⟩ := hk; dsimp only at h)
   | split at h
  all_goals first
   | (obtain rfl := Option.some.inj h; first | rfl | assumption)
   | cases h
   | exact number_j7_keep _ _ _ _ _ _ _ r h
   | exact number_j6_keep _ _ _ _ _ _ _ _ r h
   | exact number_j5_keep _ _ _ _ _ _ _ r h
theorem number_j3_keep (s0 : ByteArray) (s1 s2 s3 : Int) : ∀ (k : Nat) (x6 : Int) (b : Bool) r, T_number.j3 k x6 b s0 s1 s2 s3 = some r → r.2 = (s0, s1, s2, s3) := by
 intro k x6 b r h
 cases k with
 | zero => simp [T_number.j3] at h
 | succ k =>
  unfold T_number.j3 at h
  repeat' first
   | (obtain ⟨⟨q0, q1, q2, q3, q4⟩, hq, h⟩ := yO h; have hk := (runf_keep hq).symm; simp only [Prod.mk.injEq] at hk; obtain ⟨rfl, rfl, rfl, rfl⟩ := hk; dsimp only at h)
   | split at h
  all_goals first
   | (obtain rfl := Option.some.inj h; first | rfl | assumption)
   | cases h
   | exact number_j7_keep _ _ _ _ _ _ _ r h
   | exact number_j6_keep _ _ _ _ _ _ _ _ r h
   | exact number_j5_keep _ _ _ _ _ _ _ r h
   | exact number_j4_keep _ _ _ _ _ _ r h
theorem number_j2_keep (s0 : ByteArray) (s1 s2 s3 : Int) : ∀ (k : Nat) (x6 : Int) r, T_number.j2 k x6 s0 s1 s2 s3 = some r → r.2 = (s0, s1, s2, s3) := by
 intro k x6 r h
 cases k with
 | zero => simp [T_number.j2] at h
 | succ k =>
  unfold T_number.j2 at h
  repeat' first
   | (obtain ⟨⟨q0, q1, q2, q3, q4⟩, hq, h⟩ := yO h; have hk := (runf_keep hq).symm; simp only [Prod.mk.injEq] at hk; obtain ⟨rfl, rfl, rfl, rfl⟩ := hk; dsimp only at h)
   | split at h
  all_goals first
   | (obtain rfl := Option.some.inj h; first | rfl | assumption)
   | cases h
   | exact number_j7_keep _ _ _ _ _ _ _ r h
   | exact number_j6_keep _ _ _ _ _ _ _ _ r h
   | exact number_j5_keep _ _ _ _ _ _ _ r h
   | exact number_j4_keep _ _ _ _ _ _ r h
   | exact number_j3_keep _ _ _ _ _ _ _ r h
theorem number_j1_keep (s0 : ByteArray) (s1 s2 s3 : Int) : ∀ (k : Nat) (x1 : Int) (x5 : Int) r, T_number.j1 k x1 x5 s0 s1 s2 s3 = some r → r.2 = (s0, s1, s2, s3) := by
 intro k x1 x5 r h
 cases k with
 | zero => simp [T_number.j1] at h
 | succ k =>
  unfold T_number.j1 at h
  repeat' first
   | (obtain ⟨⟨q0, q1, q2, q3, q4⟩, hq, h⟩ := yO h; have hk := (runf_keep hq).symm; simp only [Prod.mk.injEq] at hk; obtain ⟨rfl, rfl, rfl, rfl⟩ := hk; dsimp only at h)
   | split at h
  all_goals first
   | (obtain rfl := Option.some.inj h; first | rfl | assumption)
   | cases h
   | exact number_j7_keep _ _ _ _ _ _ _ r h
   | exact number_j6_keep _ _ _ _ _ _ _ _ r h
   | exact number_j5_keep _ _ _ _ _ _ _ r h
   | exact number_j4_keep _ _ _ _ _ _ r h
   | exact number_j3_keep _ _ _ _ _ _ _ r h
   | exact number_j2_keep _ _ _ _ _ _ r h
theorem number_j0_keep (s0 : ByteArray) (s1 s2 s3 : Int) : ∀ (k : Nat) (x1 : Int) (x5 : Int) (b : Bool) r, T_number.j0 k x1 x5 b s0 s1 s2 s3 = some r → r.2 = (s0, s1, s2, s3) := by
 intro k x1 x5 b r h
 cases k with
 | zero => simp [T_number.j0] at h
 | succ k =>
  unfold T_number.j0 at h
  repeat' first
   | (obtain ⟨⟨q0, q1, q2, q3, q4⟩, hq, h⟩ := yO h; have hk := (runf_keep hq).symm; simp only [Prod.mk.injEq] at hk; obtain ⟨rfl, rfl, rfl, rfl⟩ := hk; dsimp only at h)
   | split at h
  all_goals first
   | (obtain rfl := Option.some.inj h; first | rfl | assumption)
   | cases h
   | exact number_j7_keep _ _ _ _ _ _ _ r h
   | exact number_j6_keep _ _ _ _ _ _ _ _ r h
   | exact number_j5_keep _ _ _ _ _ _ _ r h
   | exact number_j4_keep _ _ _ _ _ _ r h
   | exact number_j3_keep _ _ _ _ _ _ _ r h
   | exact number_j2_keep _ _ _ _ _ _ r h
   | exact number_j1_keep _ _ _ _ _ _ _ r h
theorem number_keep {s0 : ByteArray} {s1 s2 s3 : Int} {k : Nat} {a : Int} {r} (h : T_number.f k s0 s1 s2 s3 a = some r) : r.2 = (s0, s1, s2, s3) := by
 unfold T_number.f at h
 repeat' split at h
 all_goals first
  | exact number_j0_keep _ _ _ _ _ _ _ _ r h
  | cases h
theorem num_set {w0 w w3 : World} {g nb : Nat} {q : ByteArray} {x1 x2 x3 : Int} {o : Obj} {v0 v1 v2 v3 v4 v5 : Value} (hI : IsS79 w0 w3 g q x1 x2 x3) (hB : Below w0.heap.size w0 w3) (hc : Ch (· = g) (w.alloc o) w3) (hb : w3.heap[nb]? = some (.cells #[v0, v1, v2, v3, v4, v5] 67 (0, 0))) (h1 : w.heap.size < nb) (h2 : nb ≠ g) (a b c d e f : Value) (h9 : w0.heap.size ≤ w.heap.size) :
  IsS79 w0 ((((((w3.setCell ⟨nb, 0, none⟩ a).setCell ⟨nb, 1, none⟩ b).setCell ⟨nb, 2, none⟩ c).setCell ⟨nb, 3, none⟩ d).setCell ⟨nb, 4, none⟩ e).setCell ⟨nb, 5, none⟩ f) g q x1 x2 x3 ∧ Below w0.heap.size w0 ((((((w3.setCell ⟨nb, 0, none⟩ a).setCell ⟨nb, 1, none⟩ b).setCell ⟨nb, 2, none⟩ c).setCell ⟨nb, 3, none⟩ d).setCell ⟨nb, 4, none⟩ e).setCell ⟨nb, 5, none⟩ f) ∧ Ch (· = g) (w.alloc o) ((((((w3.setCell ⟨nb, 0, none⟩ a).setCell ⟨nb, 1, none⟩ b).setCell ⟨nb, 2, none⟩ c).setCell ⟨nb, 3, none⟩ d).setCell ⟨nb, 4, none⟩ e).setCell ⟨nb, 5, none⟩ f) ∧ w.heap.size < nb ∧ nb ≠ g ∧ ((((((w3.setCell ⟨nb, 0, none⟩ a).setCell ⟨nb, 1, none⟩ b).setCell ⟨nb, 2, none⟩ c).setCell ⟨nb, 3, none⟩ d).setCell ⟨nb, 4, none⟩ e).setCell ⟨nb, 5, none⟩ f).heap[nb]? = some (.cells #[a, b, c, d, e, f] 67 (0, 0)) := by
 have hf := fill6 (g := nb) w3 a b c d e f
 have hs := hc.size
 have hs2 : w.heap.size + 1 ≤ w3.heap.size := by simpa using hs
 have hgl := hI.2
 have h0 : w0.heap.size ≤ w3.heap.size := hB.size
 have hg2 : g ≠ nb := fun e => h2 e.symm
 have hc2 : Ch (· = g) (w.alloc o) ((((((w3.setCell ⟨nb, 0, none⟩ a).setCell ⟨nb, 1, none⟩ b).setCell ⟨nb, 2, none⟩ c).setCell ⟨nb, 3, none⟩ d).setCell ⟨nb, 4, none⟩ e).setCell ⟨nb, 5, none⟩ f) :=
  ⟨hf.os.trans hc.os, hf.tape.trans hc.tape, hf.output.trans hc.output, Nat.le_trans hc.size hf.size, fun i hi hn => (hf.block i (Nat.lt_of_lt_of_le hi hc.size) (fun e => by have : i = nb := e; simp at hi; omega)).trans (hc.block i hi hn)⟩
 refine ⟨⟨(hf.block g hI.lt hg2).trans hI.1, hI.2⟩, ?_, hc2, h1, h2, pset6 hb _ _ _ _ _ _⟩
 exact ⟨hf.os.trans hB.os, hf.tape.trans hB.tape, hf.output.trans hB.output, Nat.le_trans hB.size hf.size, fun i hi => (hf.block i (by omega) (fun e => by have : i = nb := e; omega)).trans (hB.block i hi)⟩
theorem R_box {w1 w2 : World} {B B0 : Nat} {ok : Nat → Prop} {v : Value} {l : List S67} (h : Kd.R k67 67 w1 B ok v l) (hB : B0 ≤ B) (hf : ∀ k, B ≤ k → k < w1.heap.size → w2.heap[k]? = w1.heap[k]?) : Kd.R k67 67 w2 B0 ok v l :=
 Kd.R_lower (Kd.R_mono (Kd.R_step (Kd.R_bound h) (fun k ho hl => hf k ho.2.1 hl)) (fun k hk => hk.1)) hB
theorem doc_node {w0 w w1 w2 : World} {g : Nat} {q1 q2 : ByteArray} {x1 x2 x3 y1 y2 y3 : Int} {o : Obj} {ok4 ok5 : Nat → Prop} {v4 v5 : Value} {l4 l5 : List S67} (hI : IsS79 w0 w g q1 x1 x2 x3) (hB : Below w0.heap.size w0 w) (hc1 : Ch (· = g) (w.alloc o) w1) (hb1 : Below w0.heap.size w0 w1)
  (h4 : Kd.R k67 67 w2 w1.heap.size ok4 v4 l4) (h5 : Kd.R k67 67 w2 w1.heap.size ok5 v5 l5) (hI2 : IsS79 w0 w2 g q2 y1 y2 y3) (hb2 : Below w0.heap.size w0 w2) (hk2 : KeepBut w1 w2 g none) (a b c d : Value) :
  Kd.R k67 67 ((((((w2.setCell ⟨w.heap.size, 0, none⟩ a).setCell ⟨w.heap.size, 1, none⟩ b).setCell ⟨w.heap.size, 2, none⟩ c).setCell ⟨w.heap.size, 3, none⟩ d).setCell ⟨w.heap.size, 4, none⟩ v4).setCell ⟨w.heap.size, 5, none⟩ v5) w.heap.size ok4 v4 l4 ∧
  Kd.R k67 67 ((((((w2.setCell ⟨w.heap.size, 0, none⟩ a).setCell ⟨w.heap.size, 1, none⟩ b).setCell ⟨w.heap.size, 2, none⟩ c).setCell ⟨w.heap.size, 3, none⟩ d).setCell ⟨w.heap.size, 4, none⟩ v4).setCell ⟨w.heap.size, 5, none⟩ v5) w.heap.size ok5 v5 l5 ∧
  IsS79 w0 ((((((w2.setCell ⟨w.heap.size, 0, none⟩ a).setCell ⟨w.heap.size, 1, none⟩ b).setCell ⟨w.heap.size, 2, none⟩ c).setCell ⟨w.heap.size, 3, none⟩ d).setCell ⟨w.heap.size, 4, none⟩ v4).setCell ⟨w.heap.size, 5, none⟩ v5) g q2 y1 y2 y3 ∧
  Below w0.heap.size w0 ((((((w2.setCell ⟨w.heap.size, 0, none⟩ a).setCell ⟨w.heap.size, 1, none⟩ b).setCell ⟨w.heap.size, 2, none⟩ c).setCell ⟨w.heap.size, 3, none⟩ d).setCell ⟨w.heap.size, 4, none⟩ v4).setCell ⟨w.heap.size, 5, none⟩ v5) ∧
  KeepBut w ((((((w2.setCell ⟨w.heap.size, 0, none⟩ a).setCell ⟨w.heap.size, 1, none⟩ b).setCell ⟨w.heap.size, 2, none⟩ c).setCell ⟨w.heap.size, 3, none⟩ d).setCell ⟨w.heap.size, 4, none⟩ v4).setCell ⟨w.heap.size, 5, none⟩ v5) g none := by
 have hf := fill6 (g := w.heap.size) w2 a b c d v4 v5
 have hs : w.heap.size < w1.heap.size := by have := hc1.size; simp at this; omega
 have e := doc_end hI hB hI2 (hc1.trans (keep_ch hb1 hb2 hk2)) a b c d v4 v5
 exact ⟨R_box h4 (by omega) (fun k hk hl => hf.block k hl (fun e => by have : k = w.heap.size := e; omega)), R_box h5 (by omega) (fun k hk hl => hf.block k hl (fun e => by have : k = w.heap.size := e; omega)), e⟩
end Go.Proofs.YtbpiahpkbapijaaDoor.J
end
section
namespace Go.Proofs.YtbpiahpkbapijaaDoor.J
open Go.RowKit Go.Proofs.YtbpiahpkbapijaaDoorW.PrintWords Go.Proofs.YtbpiahpkbapijaaDoorW.PrintLast Go.Proofs.YtbpiahpkbapijaaDoorW.PrintMore
set_option linter.unusedVariables false
set_option linter.unusedSimpArgs false
set_option maxHeartbeats 8000000 in
set_option maxRecDepth 100000 in
theorem value_123 (op : Int) (h0 : 0 ≤ op) (ih : ∀ o : Int, op < o → o ≤ 200 → VC o) (k : Nat) (g : Nat) (s0_0 : ByteArray) (s0_1 : Int) (s0_2 : Int) (s0_3 : Int) (r1 : Int) (r2 : Int) (r3 : Int) (r4 : ByteArray) (r5 : List (S67)) (r6 : List (S67)) (r7 : ByteArray) (r8 : Int) (r9 : Int) (r10 : Int) (w0 w : World) (hI : IsS79 w0 w g s0_0 s0_1 s0_2 s0_3) (hB : Below w0.heap.size w0 w) (h : T_value.f (k + 1) s0_0 s0_1 s0_2 s0_3 op = some (r1, r2, r3, r4, r5, r6, r7, r8, r9, r10)) (t1 : Int) (t2 : ByteArray) (t3 t4 t5 : Int) (A0 : T_next.f k s0_0 s0_1 s0_2 s0_3 = some (t1, t2, t3, t4, t5))  (g123 : t1 = 123) :
  Calls Tryd.prog 32 #[.pointer (some ⟨g, 0, none⟩), .int .i64 op] w fun e w' => ∃ v4_ v5_ : Value, e = .returned (.agg #[.int .i64 r1, .int .i64 r2, .int .i64 r3, .string r4, v4_, v5_]) ∧ Kd.R k67 67 w' w.heap.size (fun k_ => some k_ ≠ (v5_ : Value).ownBlock) v4_ r5 ∧ Kd.R k67 67 w' w.heap.size (fun k_ => some k_ ≠ (v4_ : Value).ownBlock) v5_ r6 ∧ IsS79 w0 w' g r7 r8 r9 r10 ∧ Below w0.heap.size w0 w' ∧ KeepBut w w' g none := by
 rw [T_value.f, A0, Option.bind_some] at h
 dsimp only at h
 have A1 := yM A0
 have HI := yM hI
 have HB := yM hB
 have hlt := hI.lt
 have HI1 := yM (show IsS79 w0 (w.alloc (.cells #[.int .i64 0, .int .i64 0, .int .i64 0, .string ⟨#[]⟩, .slice none 0 0, .slice none 0 0] 67)) g s0_0 s0_1 s0_2 s0_3 from hI.alloc _)
 have HB1 := yM (show Below w0.heap.size w0 (w.alloc (.cells #[.int .i64 0, .int .i64 0, .int .i64 0, .string ⟨#[]⟩, .slice none 0 0, .slice none 0 0] 67)) from ch_below hB hI.2 ((Ch.refl _ w).alloc _))
 have n1 : g ≠ w.heap.size := by omega
 have n2 : w.heap.size ≠ g := by omega
 clear A0 hI hB
 have b123 : (t1 == 123) = true := beq_iff_eq.mpr g123
 rw [if_pos g123] at h
 subst g123
 by_cases hop : op ≥ 200
 ·rw [if_pos hop] at h
  have bo : decide (op ≥ 200) = true := decide_eq_true hop
  obtain ⟨⟨u7, u8, u9, u10⟩, A5, h⟩ := yO h
  have A6 := yM A5
  simp only [Option.some.injEq, Prod.mk.injEq] at h
  obtain ⟨rfl, rfl, rfl, rfl, rfl, rfl, rfl, rfl, rfl, rfl⟩ := h
  clear hop A5
  skip
  go_enter Tryd.func32, Tryd.ntmps32
  go_wp2_with (first | (go_at_call 33; refine (T_next.calls k g _ _ _ _ _ _ _ _ _ w0 _ HI1.out HB1.out A1.out).mono ?_; rintro e w1 ⟨rfl, hi1, hb1, hk1⟩; have HI2 := yM hi1; have HB2 := yM hb1; have HC2 := yM (keep_ch HB1.out hb1 hk1); obtain ⟨c0, c1, c2, c3, cf, lt⟩ := s4 hi1; clear hi1 hb1 hk1) | fail)
  refine (T_fail.calls g _ _ _ _ _ _ _ _ _ _ w0 _ HI2.out HB2.out A6.out).mono ?_
  rintro e w6 ⟨rfl, hi6, hb6, hk6⟩
  have hc6 := HC2.out.trans (keep_ch HB2.out hb6 hk6)
  have hx := box6 hc6 hlt
  have HI6 := yM hi6
  have HC6 := yM hc6
  have HX6 := yM hx
  obtain ⟨y0, y1, y2, y3, y4, y5, yf, yl⟩ := c6 hx
  clear hi6 hb6 hk6 hx hc6
  go_wp2
  refine bodyPost_ret (results_cell_row (P := Tryd.prog) rfl _ _ w.heap.size 67 #[.int .i64 0, .int .i64 0, .int .i64 0, .string ⟨#[]⟩, .slice none 0 0, .slice none 0 0] (0, 0) _ rfl (pset6 HX6.out _ _ _ _ _ _) Tryd.underlying67 rfl info67w) rfl ?_
  exact ⟨_, _, rfl, R67_nil _ _ _, R67_nil _ _ _, doc_end HI.out HB.out HI6.out HC6.out _ _ _ _ _ _⟩
 ·rw [if_neg hop] at h
  have bo : decide (op ≥ 200) = false := decide_eq_false hop
  have e1 : wrap64 (op + 1) = op + 1 := by unfold wrap64; omega
  have hin : T_inside.f k t2 t3 t4 t5 123 (op + 1) = some (r1, r2, r3, r4, r5, r6, r7, r8, r9, r10) := by
   unfold T_inside.f
   rw [e1] at h
   rw [if_neg (by decide)]
   exact h
  have HIN := yM hin
  have HV := yM (ih (op + 1) (by omega) (by omega))
  clear hop h hin
  skip
  go_enter Tryd.func32, Tryd.ntmps32
  go_wp2_with (first | (go_at_call 33; refine (T_next.calls k g _ _ _ _ _ _ _ _ _ w0 _ HI1.out HB1.out A1.out).mono ?_; rintro e w1 ⟨rfl, hi1, hb1, hk1⟩; have HI2 := yM hi1; have HB2 := yM hb1; have HC2 := yM (keep_ch HB1.out hb1 hk1); obtain ⟨c0, c1, c2, c3, cf, lt⟩ := s4 hi1; clear hi1 hb1 hk1) | fail)
  refine (T_inside.calls k g _ _ _ _ _ _ _ _ _ _ _ _ _ _ _ _ w0 _ HV.out HI2.out HB2.out HIN.out).mono ?_
  rintro e w2 ⟨v4, v5, rfl, h4, h5, hi2, hb2, hk2⟩
  obtain ⟨A4, n4, rfl⟩ := Kd.R_slice h4
  obtain ⟨A5, n5, rfl⟩ := Kd.R_slice h5
  have hc2 := HC2.out.trans (keep_ch HB2.out hb2 hk2)
  have hx := box6 hc2 hlt
  have HXX := yM hx
  have HN := yM (doc_node HI.out HB.out HC2.out HB2.out h4 h5 hi2 hb2 hk2 (.int .i64 r1) (.int .i64 r2) (.int .i64 r3) (.string r4))
  obtain ⟨y0, y1, y2, y3, y4, y5, yf, yl⟩ := c6 hx
  clear h4 h5 hi2 hb2 hk2 hc2 hx
  go_wp2
  refine bodyPost_ret (results_cell_row (P := Tryd.prog) rfl _ _ w.heap.size 67 #[.int .i64 r1, .int .i64 r2, .int .i64 r3, .string r4, .slice A4 r5.length n4, .slice A5 r6.length n5] (0, 0) _ rfl (pset6 HXX.out _ _ _ _ _ _) Tryd.underlying67 rfl info67w) rfl ?_
  exact ⟨_, _, rfl, HN.out⟩
set_option maxHeartbeats 8000000 in
set_option maxRecDepth 100000 in
theorem value_91 (op : Int) (h0 : 0 ≤ op) (ih : ∀ o : Int, op < o → o ≤ 200 → VC o) (k : Nat) (g : Nat) (s0_0 : ByteArray) (s0_1 : Int) (s0_2 : Int) (s0_3 : Int) (r1 : Int) (r2 : Int) (r3 : Int) (r4 : ByteArray) (r5 : List (S67)) (r6 : List (S67)) (r7 : ByteArray) (r8 : Int) (r9 : Int) (r10 : Int) (w0 w : World) (hI : IsS79 w0 w g s0_0 s0_1 s0_2 s0_3) (hB : Below w0.heap.size w0 w) (h : T_value.f (k + 1) s0_0 s0_1 s0_2 s0_3 op = some (r1, r2, r3, r4, r5, r6, r7, r8, r9, r10)) (t1 : Int) (t2 : ByteArray) (t3 t4 t5 : Int) (A0 : T_next.f k s0_0 s0_1 s0_2 s0_3 = some (t1, t2, t3, t4, t5)) (g123 : ¬ t1 = 123) (g91 : t1 = 91) :
  Calls Tryd.prog 32 #[.pointer (some ⟨g, 0, none⟩), .int .i64 op] w fun e w' => ∃ v4_ v5_ : Value, e = .returned (.agg #[.int .i64 r1, .int .i64 r2, .int .i64 r3, .string r4, v4_, v5_]) ∧ Kd.R k67 67 w' w.heap.size (fun k_ => some k_ ≠ (v5_ : Value).ownBlock) v4_ r5 ∧ Kd.R k67 67 w' w.heap.size (fun k_ => some k_ ≠ (v4_ : Value).ownBlock) v5_ r6 ∧ IsS79 w0 w' g r7 r8 r9 r10 ∧ Below w0.heap.size w0 w' ∧ KeepBut w w' g none := by
 rw [T_value.f, A0, Option.bind_some] at h
 dsimp only at h
 have A1 := yM A0
 have HI := yM hI
 have HB := yM hB
 have hlt := hI.lt
 have HI1 := yM (show IsS79 w0 (w.alloc (.cells #[.int .i64 0, .int .i64 0, .int .i64 0, .string ⟨#[]⟩, .slice none 0 0, .slice none 0 0] 67)) g s0_0 s0_1 s0_2 s0_3 from hI.alloc _)
 have HB1 := yM (show Below w0.heap.size w0 (w.alloc (.cells #[.int .i64 0, .int .i64 0, .int .i64 0, .string ⟨#[]⟩, .slice none 0 0, .slice none 0 0] 67)) from ch_below hB hI.2 ((Ch.refl _ w).alloc _))
 have n1 : g ≠ w.heap.size := by omega
 have n2 : w.heap.size ≠ g := by omega
 clear A0 hI hB
 rw [if_neg g123] at h
 have b123 : (t1 == 123) = false := yB g123
 have b91 : (t1 == 91) = true := beq_iff_eq.mpr g91
 rw [if_pos g91] at h
 subst g91
 by_cases hop : op ≥ 200
 ·rw [if_pos hop] at h
  have bo : decide (op ≥ 200) = true := decide_eq_true hop
  obtain ⟨⟨u7, u8, u9, u10⟩, A5, h⟩ := yO h
  have A6 := yM A5
  simp only [Option.some.injEq, Prod.mk.injEq] at h
  obtain ⟨rfl, rfl, rfl, rfl, rfl, rfl, rfl, rfl, rfl, rfl⟩ := h
  clear hop A5
  clear g123
  go_enter Tryd.func32, Tryd.ntmps32
  go_wp2_with (first | (go_at_call 33; refine (T_next.calls k g _ _ _ _ _ _ _ _ _ w0 _ HI1.out HB1.out A1.out).mono ?_; rintro e w1 ⟨rfl, hi1, hb1, hk1⟩; have HI2 := yM hi1; have HB2 := yM hb1; have HC2 := yM (keep_ch HB1.out hb1 hk1); obtain ⟨c0, c1, c2, c3, cf, lt⟩ := s4 hi1; clear hi1 hb1 hk1) | fail)
  refine (T_fail.calls g _ _ _ _ _ _ _ _ _ _ w0 _ HI2.out HB2.out A6.out).mono ?_
  rintro e w6 ⟨rfl, hi6, hb6, hk6⟩
  have hc6 := HC2.out.trans (keep_ch HB2.out hb6 hk6)
  have hx := box6 hc6 hlt
  have HI6 := yM hi6
  have HC6 := yM hc6
  have HX6 := yM hx
  obtain ⟨y0, y1, y2, y3, y4, y5, yf, yl⟩ := c6 hx
  clear hi6 hb6 hk6 hx hc6
  go_wp2
  refine bodyPost_ret (results_cell_row (P := Tryd.prog) rfl _ _ w.heap.size 67 #[.int .i64 0, .int .i64 0, .int .i64 0, .string ⟨#[]⟩, .slice none 0 0, .slice none 0 0] (0, 0) _ rfl (pset6 HX6.out _ _ _ _ _ _) Tryd.underlying67 rfl info67w) rfl ?_
  exact ⟨_, _, rfl, R67_nil _ _ _, R67_nil _ _ _, doc_end HI.out HB.out HI6.out HC6.out _ _ _ _ _ _⟩
 ·rw [if_neg hop] at h
  have bo : decide (op ≥ 200) = false := decide_eq_false hop
  have e1 : wrap64 (op + 1) = op + 1 := by unfold wrap64; omega
  have hin : T_inside.f k t2 t3 t4 t5 91 (op + 1) = some (r1, r2, r3, r4, r5, r6, r7, r8, r9, r10) := by
   unfold T_inside.f
   rw [e1] at h
   rw [if_pos rfl]
   exact h
  have HIN := yM hin
  have HV := yM (ih (op + 1) (by omega) (by omega))
  clear hop h hin
  clear g123
  go_enter Tryd.func32, Tryd.ntmps32
  go_wp2_with (first | (go_at_call 33; refine (T_next.calls k g _ _ _ _ _ _ _ _ _ w0 _ HI1.out HB1.out A1.out).mono ?_; rintro e w1 ⟨rfl, hi1, hb1, hk1⟩; have HI2 := yM hi1; have HB2 := yM hb1; have HC2 := yM (keep_ch HB1.out hb1 hk1); obtain ⟨c0, c1, c2, c3, cf, lt⟩ := s4 hi1; clear hi1 hb1 hk1) | fail)
  refine (T_inside.calls k g _ _ _ _ _ _ _ _ _ _ _ _ _ _ _ _ w0 _ HV.out HI2.out HB2.out HIN.out).mono ?_
  rintro e w2 ⟨v4, v5, rfl, h4, h5, hi2, hb2, hk2⟩
  obtain ⟨A4, n4, rfl⟩ := Kd.R_slice h4
  obtain ⟨A5, n5, rfl⟩ := Kd.R_slice h5
  have hc2 := HC2.out.trans (keep_ch HB2.out hb2 hk2)
  have hx := box6 hc2 hlt
  have HXX := yM hx
  have HN := yM (doc_node HI.out HB.out HC2.out HB2.out h4 h5 hi2 hb2 hk2 (.int .i64 r1) (.int .i64 r2) (.int .i64 r3) (.string r4))
  obtain ⟨y0, y1, y2, y3, y4, y5, yf, yl⟩ := c6 hx
  clear h4 h5 hi2 hb2 hk2 hc2 hx
  go_wp2
  refine bodyPost_ret (results_cell_row (P := Tryd.prog) rfl _ _ w.heap.size 67 #[.int .i64 r1, .int .i64 r2, .int .i64 r3, .string r4, .slice A4 r5.length n4, .slice A5 r6.length n5] (0, 0) _ rfl (pset6 HXX.out _ _ _ _ _ _) Tryd.underlying67 rfl info67w) rfl ?_
  exact ⟨_, _, rfl, HN.out⟩
set_option maxHeartbeats 8000000 in
set_option maxRecDepth 100000 in
theorem value_34 (op : Int) (h0 : 0 ≤ op) (ih : ∀ o : Int, op < o → o ≤ 200 → VC o) (k : Nat) (g : Nat) (s0_0 : ByteArray) (s0_1 : Int) (s0_2 : Int) (s0_3 : Int) (r1 : Int) (r2 : Int) (r3 : Int) (r4 : ByteArray) (r5 : List (S67)) (r6 : List (S67)) (r7 : ByteArray) (r8 : Int) (r9 : Int) (r10 : Int) (w0 w : World) (hI : IsS79 w0 w g s0_0 s0_1 s0_2 s0_3) (hB : Below w0.heap.size w0 w) (h : T_value.f (k + 1) s0_0 s0_1 s0_2 s0_3 op = some (r1, r2, r3, r4, r5, r6, r7, r8, r9, r10)) (t1 : Int) (t2 : ByteArray) (t3 t4 t5 : Int) (A0 : T_next.f k s0_0 s0_1 s0_2 s0_3 = some (t1, t2, t3, t4, t5)) (g123 : ¬ t1 = 123) (g91 : ¬ t1 = 91) (g34 : t1 = 34) :
  Calls Tryd.prog 32 #[.pointer (some ⟨g, 0, none⟩), .int .i64 op] w fun e w' => ∃ v4_ v5_ : Value, e = .returned (.agg #[.int .i64 r1, .int .i64 r2, .int .i64 r3, .string r4, v4_, v5_]) ∧ Kd.R k67 67 w' w.heap.size (fun k_ => some k_ ≠ (v5_ : Value).ownBlock) v4_ r5 ∧ Kd.R k67 67 w' w.heap.size (fun k_ => some k_ ≠ (v4_ : Value).ownBlock) v5_ r6 ∧ IsS79 w0 w' g r7 r8 r9 r10 ∧ Below w0.heap.size w0 w' ∧ KeepBut w w' g none := by
 rw [T_value.f, A0, Option.bind_some] at h
 dsimp only at h
 have A1 := yM A0
 have HI := yM hI
 have HB := yM hB
 have hlt := hI.lt
 have HI1 := yM (show IsS79 w0 (w.alloc (.cells #[.int .i64 0, .int .i64 0, .int .i64 0, .string ⟨#[]⟩, .slice none 0 0, .slice none 0 0] 67)) g s0_0 s0_1 s0_2 s0_3 from hI.alloc _)
 have HB1 := yM (show Below w0.heap.size w0 (w.alloc (.cells #[.int .i64 0, .int .i64 0, .int .i64 0, .string ⟨#[]⟩, .slice none 0 0, .slice none 0 0] 67)) from ch_below hB hI.2 ((Ch.refl _ w).alloc _))
 have n1 : g ≠ w.heap.size := by omega
 have n2 : w.heap.size ≠ g := by omega
 clear A0 hI hB
 rw [if_neg g123, if_neg g91] at h
 have b123 : (t1 == 123) = false := yB g123
 have b91 : (t1 == 91) = false := yB g91
 have b34 : (t1 == 34) = true := beq_iff_eq.mpr g34
 rw [if_pos g34] at h
 have HH := yM h
 clear h
 clear g123 g91 g34
 go_enter Tryd.func32, Tryd.ntmps32
 go_wp2_with (go_at_call 33; refine (T_next.calls k g _ _ _ _ _ _ _ _ _ w0 _ HI1.out HB1.out A1.out).mono ?_; rintro e w1 ⟨rfl, hi1, hb1, hk1⟩; have HI2 := yM hi1; have HB2 := yM hb1; have HC2 := yM (keep_ch HB1.out hb1 hk1); obtain ⟨c0, c1, c2, c3, cf, lt⟩ := s4 hi1; clear hi1 hb1 hk1)
 refine (T_text.calls k g _ _ _ _ _ _ _ _ _ _ _ _ _ _ w0 _ HI2.out HB2.out HH.out).mono ?_
 rintro e w2 ⟨v4, v5, rfl, h4, h5, hi2, hb2, hk2⟩
 obtain ⟨A4, n4, rfl⟩ := Kd.R_slice h4
 obtain ⟨A5, n5, rfl⟩ := Kd.R_slice h5
 have hc2 := HC2.out.trans (keep_ch HB2.out hb2 hk2)
 have hx := box6 hc2 hlt
 have HXX := yM hx
 have HN := yM (doc_node HI.out HB.out HC2.out HB2.out h4 h5 hi2 hb2 hk2 (.int .i64 r1) (.int .i64 r2) (.int .i64 r3) (.string r4))
 obtain ⟨y0, y1, y2, y3, y4, y5, yf, yl⟩ := c6 hx
 clear h4 h5 hi2 hb2 hk2 hc2 hx
 go_wp2
 refine bodyPost_ret (results_cell_row (P := Tryd.prog) rfl _ _ w.heap.size 67 #[.int .i64 r1, .int .i64 r2, .int .i64 r3, .string r4, .slice A4 r5.length n4, .slice A5 r6.length n5] (0, 0) _ rfl (pset6 HXX.out _ _ _ _ _ _) Tryd.underlying67 rfl info67w) rfl ?_
 exact ⟨_, _, rfl, HN.out⟩
set_option maxHeartbeats 8000000 in
set_option maxRecDepth 100000 in
theorem value_116 (op : Int) (h0 : 0 ≤ op) (ih : ∀ o : Int, op < o → o ≤ 200 → VC o) (k : Nat) (g : Nat) (s0_0 : ByteArray) (s0_1 : Int) (s0_2 : Int) (s0_3 : Int) (r1 : Int) (r2 : Int) (r3 : Int) (r4 : ByteArray) (r5 : List (S67)) (r6 : List (S67)) (r7 : ByteArray) (r8 : Int) (r9 : Int) (r10 : Int) (w0 w : World) (hI : IsS79 w0 w g s0_0 s0_1 s0_2 s0_3) (hB : Below w0.heap.size w0 w) (h : T_value.f (k + 1) s0_0 s0_1 s0_2 s0_3 op = some (r1, r2, r3, r4, r5, r6, r7, r8, r9, r10)) (t1 : Int) (t2 : ByteArray) (t3 t4 t5 : Int) (A0 : T_next.f k s0_0 s0_1 s0_2 s0_3 = some (t1, t2, t3, t4, t5)) (g123 : ¬ t1 = 123) (g91 : ¬ t1 = 91) (g34 : ¬ t1 = 34) (g116 : t1 = 116) :
  Calls Tryd.prog 32 #[.pointer (some ⟨g, 0, none⟩), .int .i64 op] w fun e w' => ∃ v4_ v5_ : Value, e = .returned (.agg #[.int .i64 r1, .int .i64 r2, .int .i64 r3, .string r4, v4_, v5_]) ∧ Kd.R k67 67 w' w.heap.size (fun k_ => some k_ ≠ (v5_ : Value).ownBlock) v4_ r5 ∧ Kd.R k67 67 w' w.heap.size (fun k_ => some k_ ≠ (v4_ : Value).ownBlock) v5_ r6 ∧ IsS79 w0 w' g r7 r8 r9 r10 ∧ Below w0.heap.size w0 w' ∧ KeepBut w w' g none := by
 rw [T_value.f, A0, Option.bind_some] at h
 dsimp only at h
 have A1 := yM A0
 have HI := yM hI
 have HB := yM hB
 have hlt := hI.lt
 have HI1 := yM (show IsS79 w0 (w.alloc (.cells #[.int .i64 0, .int .i64 0, .int .i64 0, .string ⟨#[]⟩, .slice none 0 0, .slice none 0 0] 67)) g s0_0 s0_1 s0_2 s0_3 from hI.alloc _)
 have HB1 := yM (show Below w0.heap.size w0 (w.alloc (.cells #[.int .i64 0, .int .i64 0, .int .i64 0, .string ⟨#[]⟩, .slice none 0 0, .slice none 0 0] 67)) from ch_below hB hI.2 ((Ch.refl _ w).alloc _))
 have n1 : g ≠ w.heap.size := by omega
 have n2 : w.heap.size ≠ g := by omega
 clear A0 hI hB
 rw [if_neg g123, if_neg g91, if_neg g34] at h
 have b123 : (t1 == 123) = false := yB g123
 have b91 : (t1 == 91) = false := yB g91
 have b34 : (t1 == 34) = false := yB g34
 have b116 : (t1 == 116) = true := beq_iff_eq.mpr g116
 rw [if_pos g116] at h
 have HH := yM h
 clear h
 clear g123 g91 g34 g116
 go_enter Tryd.func32, Tryd.ntmps32
 go_wp2_with (go_at_call 33; refine (T_next.calls k g _ _ _ _ _ _ _ _ _ w0 _ HI1.out HB1.out A1.out).mono ?_; rintro e w1 ⟨rfl, hi1, hb1, hk1⟩; have HI2 := yM hi1; have HB2 := yM hb1; have HC2 := yM (keep_ch HB1.out hb1 hk1); obtain ⟨c0, c1, c2, c3, cf, lt⟩ := s4 hi1; clear hi1 hb1 hk1)
 refine (T_word.calls g _ _ _ _ _ _ _ _ _ _ _ _ _ _ _ _ w0 _ HI2.out HB2.out HH.out).mono ?_
 rintro e w2 ⟨v4, v5, rfl, h4, h5, hi2, hb2, hk2⟩
 obtain ⟨A4, n4, rfl⟩ := Kd.R_slice h4
 obtain ⟨A5, n5, rfl⟩ := Kd.R_slice h5
 have hc2 := HC2.out.trans (keep_ch HB2.out hb2 hk2)
 have hx := box6 hc2 hlt
 have HXX := yM hx
 have HN := yM (doc_node HI.out HB.out HC2.out HB2.out h4 h5 hi2 hb2 hk2 (.int .i64 r1) (.int .i64 r2) (.int .i64 r3) (.string r4))
 obtain ⟨y0, y1, y2, y3, y4, y5, yf, yl⟩ := c6 hx
 clear h4 h5 hi2 hb2 hk2 hc2 hx
 go_wp2
 refine bodyPost_ret (results_cell_row (P := Tryd.prog) rfl _ _ w.heap.size 67 #[.int .i64 r1, .int .i64 r2, .int .i64 r3, .string r4, .slice A4 r5.length n4, .slice A5 r6.length n5] (0, 0) _ rfl (pset6 HXX.out _ _ _ _ _ _) Tryd.underlying67 rfl info67w) rfl ?_
 exact ⟨_, _, rfl, HN.out⟩
set_option maxHeartbeats 8000000 in
set_option maxRecDepth 100000 in
theorem value_102 (op : Int) (h0 : 0 ≤ op) (ih : ∀ o : Int, op < o → o ≤ 200 → VC o) (k : Nat) (g : Nat) (s0_0 : ByteArray) (s0_1 : Int) (s0_2 : Int) (s0_3 : Int) (r1 : Int) (r2 : Int) (r3 : Int) (r4 : ByteArray) (r5 : List (S67)) (r6 : List (S67)) (r7 : ByteArray) (r8 : Int) (r9 : Int) (r10 : Int) (w0 w : World) (hI : IsS79 w0 w g s0_0 s0_1 s0_2 s0_3) (hB : Below w0.heap.size w0 w) (h : T_value.f (k + 1) s0_0 s0_1 s0_2 s0_3 op = some (r1, r2, r3, r4, r5, r6, r7, r8, r9, r10)) (t1 : Int) (t2 : ByteArray) (t3 t4 t5 : Int) (A0 : T_next.f k s0_0 s0_1 s0_2 s0_3 = some (t1, t2, t3, t4, t5)) (g123 : ¬ t1 = 123) (g91 : ¬ t1 = 91) (g34 : ¬ t1 = 34) (g116 : ¬ t1 = 116) (g102 : t1 = 102) :
  Calls Tryd.prog 32 #[.pointer (some ⟨g, 0, none⟩), .int .i64 op] w fun e w' => ∃ v4_ v5_ : Value, e = .returned (.agg #[.int .i64 r1, .int .i64 r2, .int .i64 r3, .string r4, v4_, v5_]) ∧ Kd.R k67 67 w' w.heap.size (fun k_ => some k_ ≠ (v5_ : Value).ownBlock) v4_ r5 ∧ Kd.R k67 67 w' w.heap.size (fun k_ => some k_ ≠ (v4_ : Value).ownBlock) v5_ r6 ∧ IsS79 w0 w' g r7 r8 r9 r10 ∧ Below w0.heap.size w0 w' ∧ KeepBut w w' g none := by
 rw [T_value.f, A0, Option.bind_some] at h
 dsimp only at h
 have A1 := yM A0
 have HI := yM hI
 have HB := yM hB
 have hlt := hI.lt
 have HI1 := yM (show IsS79 w0 (w.alloc (.cells #[.int .i64 0, .int .i64 0, .int .i64 0, .string ⟨#[]⟩, .slice none 0 0, .slice none 0 0] 67)) g s0_0 s0_1 s0_2 s0_3 from hI.alloc _)
 have HB1 := yM (show Below w0.heap.size w0 (w.alloc (.cells #[.int .i64 0, .int .i64 0, .int .i64 0, .string ⟨#[]⟩, .slice none 0 0, .slice none 0 0] 67)) from ch_below hB hI.2 ((Ch.refl _ w).alloc _))
 have n1 : g ≠ w.heap.size := by omega
 have n2 : w.heap.size ≠ g := by omega
 clear A0 hI hB
 rw [if_neg g123, if_neg g91, if_neg g34, if_neg g116] at h
 have b123 : (t1 == 123) = false := yB g123
 have b91 : (t1 == 91) = false := yB g91
 have b34 : (t1 == 34) = false := yB g34
 have b116 : (t1 == 116) = false := yB g116
 have b102 : (t1 == 102) = true := beq_iff_eq.mpr g102
 rw [if_pos g102] at h
 have HH := yM h
 clear h
 clear g123 g91 g34 g116 g102
 go_enter Tryd.func32, Tryd.ntmps32
 go_wp2_with (go_at_call 33; refine (T_next.calls k g _ _ _ _ _ _ _ _ _ w0 _ HI1.out HB1.out A1.out).mono ?_; rintro e w1 ⟨rfl, hi1, hb1, hk1⟩; have HI2 := yM hi1; have HB2 := yM hb1; have HC2 := yM (keep_ch HB1.out hb1 hk1); obtain ⟨c0, c1, c2, c3, cf, lt⟩ := s4 hi1; clear hi1 hb1 hk1)
 refine (T_word.calls g _ _ _ _ _ _ _ _ _ _ _ _ _ _ _ _ w0 _ HI2.out HB2.out HH.out).mono ?_
 rintro e w2 ⟨v4, v5, rfl, h4, h5, hi2, hb2, hk2⟩
 obtain ⟨A4, n4, rfl⟩ := Kd.R_slice h4
 obtain ⟨A5, n5, rfl⟩ := Kd.R_slice h5
 have hc2 := HC2.out.trans (keep_ch HB2.out hb2 hk2)
 have hx := box6 hc2 hlt
 have HXX := yM hx
 have HN := yM (doc_node HI.out HB.out HC2.out HB2.out h4 h5 hi2 hb2 hk2 (.int .i64 r1) (.int .i64 r2) (.int .i64 r3) (.string r4))
 obtain ⟨y0, y1, y2, y3, y4, y5, yf, yl⟩ := c6 hx
 clear h4 h5 hi2 hb2 hk2 hc2 hx
 go_wp2
 refine bodyPost_ret (results_cell_row (P := Tryd.prog) rfl _ _ w.heap.size 67 #[.int .i64 r1, .int .i64 r2, .int .i64 r3, .string r4, .slice A4 r5.length n4, .slice A5 r6.length n5] (0, 0) _ rfl (pset6 HXX.out _ _ _ _ _ _) Tryd.underlying67 rfl info67w) rfl ?_
 exact ⟨_, _, rfl, HN.out⟩
set_option maxHeartbeats 8000000 in
set_option maxRecDepth 100000 in
theorem value_110 (op : Int) (h0 : 0 ≤ op) (ih : ∀ o : Int, op < o → o ≤ 200 → VC o) (k : Nat) (g : Nat) (s0_0 : ByteArray) (s0_1 : Int) (s0_2 : Int) (s0_3 : Int) (r1 : Int) (r2 : Int) (r3 : Int) (r4 : ByteArray) (r5 : List (S67)) (r6 : List (S67)) (r7 : ByteArray) (r8 : Int) (r9 : Int) (r10 : Int) (w0 w : World) (hI : IsS79 w0 w g s0_0 s0_1 s0_2 s0_3) (hB : Below w0.heap.size w0 w) (h : T_value.f (k + 1) s0_0 s0_1 s0_2 s0_3 op = some (r1, r2, r3, r4, r5, r6, r7, r8, r9, r10)) (t1 : Int) (t2 : ByteArray) (t3 t4 t5 : Int) (A0 : T_next.f k s0_0 s0_1 s0_2 s0_3 = some (t1, t2, t3, t4, t5)) (g123 : ¬ t1 = 123) (g91 : ¬ t1 = 91) (g34 : ¬ t1 = 34) (g116 : ¬ t1 = 116) (g102 : ¬ t1 = 102) (g110 : t1 = 110) :
  Calls Tryd.prog 32 #[.pointer (some ⟨g, 0, none⟩), .int .i64 op] w fun e w' => ∃ v4_ v5_ : Value, e = .returned (.agg #[.int .i64 r1, .int .i64 r2, .int .i64 r3, .string r4, v4_, v5_]) ∧ Kd.R k67 67 w' w.heap.size (fun k_ => some k_ ≠ (v5_ : Value).ownBlock) v4_ r5 ∧ Kd.R k67 67 w' w.heap.size (fun k_ => some k_ ≠ (v4_ : Value).ownBlock) v5_ r6 ∧ IsS79 w0 w' g r7 r8 r9 r10 ∧ Below w0.heap.size w0 w' ∧ KeepBut w w' g none := by
 rw [T_value.f, A0, Option.bind_some] at h
 dsimp only at h
 have A1 := yM A0
 have HI := yM hI
 have HB := yM hB
 have hlt := hI.lt
 have HI1 := yM (show IsS79 w0 (w.alloc (.cells #[.int .i64 0, .int .i64 0, .int .i64 0, .string ⟨#[]⟩, .slice none 0 0, .slice none 0 0] 67)) g s0_0 s0_1 s0_2 s0_3 from hI.alloc _)
 have HB1 := yM (show Below w0.heap.size w0 (w.alloc (.cells #[.int .i64 0, .int .i64 0, .int .i64 0, .string ⟨#[]⟩, .slice none 0 0, .slice none 0 0] 67)) from ch_below hB hI.2 ((Ch.refl _ w).alloc _))
 have n1 : g ≠ w.heap.size := by omega
 have n2 : w.heap.size ≠ g := by omega
 clear A0 hI hB
 rw [if_neg g123, if_neg g91, if_neg g34, if_neg g116, if_neg g102] at h
 have b123 : (t1 == 123) = false := yB g123
 have b91 : (t1 == 91) = false := yB g91
 have b34 : (t1 == 34) = false := yB g34
 have b116 : (t1 == 116) = false := yB g116
 have b102 : (t1 == 102) = false := yB g102
 have b110 : (t1 == 110) = true := beq_iff_eq.mpr g110
 rw [if_pos g110] at h
 have HH := yM h
 clear h
 clear g123 g91 g34 g116 g102 g110
 go_enter Tryd.func32, Tryd.ntmps32
 go_wp2_with (go_at_call 33; refine (T_next.calls k g _ _ _ _ _ _ _ _ _ w0 _ HI1.out HB1.out A1.out).mono ?_; rintro e w1 ⟨rfl, hi1, hb1, hk1⟩; have HI2 := yM hi1; have HB2 := yM hb1; have HC2 := yM (keep_ch HB1.out hb1 hk1); obtain ⟨c0, c1, c2, c3, cf, lt⟩ := s4 hi1; clear hi1 hb1 hk1)
 refine (T_word.calls g _ _ _ _ _ _ _ _ _ _ _ _ _ _ _ _ w0 _ HI2.out HB2.out HH.out).mono ?_
 rintro e w2 ⟨v4, v5, rfl, h4, h5, hi2, hb2, hk2⟩
 obtain ⟨A4, n4, rfl⟩ := Kd.R_slice h4
 obtain ⟨A5, n5, rfl⟩ := Kd.R_slice h5
 have hc2 := HC2.out.trans (keep_ch HB2.out hb2 hk2)
 have hx := box6 hc2 hlt
 have HXX := yM hx
 have HN := yM (doc_node HI.out HB.out HC2.out HB2.out h4 h5 hi2 hb2 hk2 (.int .i64 r1) (.int .i64 r2) (.int .i64 r3) (.string r4))
 obtain ⟨y0, y1, y2, y3, y4, y5, yf, yl⟩ := c6 hx
 clear h4 h5 hi2 hb2 hk2 hc2 hx
 go_wp2
 refine bodyPost_ret (results_cell_row (P := Tryd.prog) rfl _ _ w.heap.size 67 #[.int .i64 r1, .int .i64 r2, .int .i64 r3, .string r4, .slice A4 r5.length n4, .slice A5 r6.length n5] (0, 0) _ rfl (pset6 HXX.out _ _ _ _ _ _) Tryd.underlying67 rfl info67w) rfl ?_
 exact ⟨_, _, rfl, HN.out⟩
set_option maxHeartbeats 8000000 in
set_option maxRecDepth 100000 in
theorem value_0 (op : Int) (h0 : 0 ≤ op) (ih : ∀ o : Int, op < o → o ≤ 200 → VC o) (k : Nat) (g : Nat) (s0_0 : ByteArray) (s0_1 : Int) (s0_2 : Int) (s0_3 : Int) (r1 : Int) (r2 : Int) (r3 : Int) (r4 : ByteArray) (r5 : List (S67)) (r6 : List (S67)) (r7 : ByteArray) (r8 : Int) (r9 : Int) (r10 : Int) (w0 w : World) (hI : IsS79 w0 w g s0_0 s0_1 s0_2 s0_3) (hB : Below w0.heap.size w0 w) (h : T_value.f (k + 1) s0_0 s0_1 s0_2 s0_3 op = some (r1, r2, r3, r4, r5, r6, r7, r8, r9, r10)) (t1 : Int) (t2 : ByteArray) (t3 t4 t5 : Int) (A0 : T_next.f k s0_0 s0_1 s0_2 s0_3 = some (t1, t2, t3, t4, t5)) (g123 : ¬ t1 = 123) (g91 : ¬ t1 = 91) (g34 : ¬ t1 = 34) (g116 : ¬ t1 = 116) (g102 : ¬ t1 = 102) (g110 : ¬ t1 = 110) :
  Calls Tryd.prog 32 #[.pointer (some ⟨g, 0, none⟩), .int .i64 op] w fun e w' => ∃ v4_ v5_ : Value, e = .returned (.agg #[.int .i64 r1, .int .i64 r2, .int .i64 r3, .string r4, v4_, v5_]) ∧ Kd.R k67 67 w' w.heap.size (fun k_ => some k_ ≠ (v5_ : Value).ownBlock) v4_ r5 ∧ Kd.R k67 67 w' w.heap.size (fun k_ => some k_ ≠ (v4_ : Value).ownBlock) v5_ r6 ∧ IsS79 w0 w' g r7 r8 r9 r10 ∧ Below w0.heap.size w0 w' ∧ KeepBut w w' g none := by
 rw [T_value.f, A0, Option.bind_some] at h
 dsimp only at h
 have A1 := yM A0
 have HI := yM hI
 have HB := yM hB
 have hlt := hI.lt
 have HI1 := yM (show IsS79 w0 (w.alloc (.cells #[.int .i64 0, .int .i64 0, .int .i64 0, .string ⟨#[]⟩, .slice none 0 0, .slice none 0 0] 67)) g s0_0 s0_1 s0_2 s0_3 from hI.alloc _)
 have HB1 := yM (show Below w0.heap.size w0 (w.alloc (.cells #[.int .i64 0, .int .i64 0, .int .i64 0, .string ⟨#[]⟩, .slice none 0 0, .slice none 0 0] 67)) from ch_below hB hI.2 ((Ch.refl _ w).alloc _))
 have n1 : g ≠ w.heap.size := by omega
 have n2 : w.heap.size ≠ g := by omega
 clear A0 hI hB
 rw [if_neg g123, if_neg g91, if_neg g34, if_neg g116, if_neg g102, if_neg g110] at h
 have b123 : (t1 == 123) = false := yB g123
 have b91 : (t1 == 91) = false := yB g91
 have b34 : (t1 == 34) = false := yB g34
 have b116 : (t1 == 116) = false := yB g116
 have b102 : (t1 == 102) = false := yB g102
 have b110 : (t1 == 110) = false := yB g110
 clear g123 g91 g34 g116 g102 g110
 obtain ⟨⟨e1, e2, e3, e4, e5⟩, hE, h⟩ := yO h
 have hk := (number_keep hE).symm
 simp only [Prod.mk.injEq] at hk
 obtain ⟨rfl, rfl, rfl, rfl⟩ := hk
 dsimp only at h
 have HE := yM hE
 have HH := yM h
 clear hE h
 go_enter Tryd.func32, Tryd.ntmps32
 go_wp2_with (go_at_call 33; refine (T_next.calls k g _ _ _ _ _ _ _ _ _ w0 _ HI1.out HB1.out A1.out).mono ?_; rintro e w1 ⟨rfl, hi1, hb1, hk1⟩; have HI2 := yM hi1; have HB2 := yM hb1; have HC2 := yM (keep_ch HB1.out hb1 hk1); obtain ⟨c0, c1, c2, c3, cf, lt⟩ := s4 hi1; clear hi1 hb1 hk1)
 go_cut [6] (fun v6 wc => ∃ nb : Nat, v6 = .pointer (some ⟨nb, 0, none⟩) ∧ Aside0 (IsS79 w0 wc g t2 t3 t4 t5 ∧ Below w0.heap.size w0 wc ∧ Ch (· = g) (w.alloc (.cells #[.int .i64 0, .int .i64 0, .int .i64 0, .string ⟨#[]⟩, .slice none 0 0, .slice none 0 0] 67)) wc ∧ w.heap.size < nb ∧ nb ≠ g ∧ wc.heap[nb]? = some (.cells #[.int .i64 4, .int .i64 t3, .int .i64 e1, .string ⟨#[]⟩, .slice none 0 0, .slice none 0 0] 67 (0, 0))))
 case first =>
  go_region_with (go_at_call 47; refine (T_number.calls k g _ _ _ _ _ _ _ _ _ _ w0 _ (by with_reducible repeat (first | exact HI2.out | apply wA | apply wN | apply wD)) (by with_reducible repeat (first | exact HB2.out | apply zA | apply zN | apply zD)) HE.out).mono ?_; rintro e w3 ⟨rfl, hi3, hb3, hk3⟩; obtain ⟨_, ic1, _, _, icf, ilt⟩ := s4 hi3; have HI3 := yM hi3; have HB3 := yM hb3; have HC3 := yM (Ch.trans (by with_reducible repeat (first | exact HC2.out | apply Ch.alloc | apply Ch.drewN | apply Ch.drew)) (keep_ch (by with_reducible repeat (first | exact HB2.out | apply zA | apply zN | apply zD)) hb3 hk3)); (try (have hbx := (hk3.2 w1.heap.size (by simp) (by omega) (by simp)).trans (blk_new w1 (.cells #[.int .i64 0, .int .i64 0, .int .i64 0, .string ⟨#[]⟩, .slice none 0 0, .slice none 0 0] 67) : (w1.alloc (.cells #[.int .i64 0, .int .i64 0, .int .i64 0, .string ⟨#[]⟩, .slice none 0 0, .slice none 0 0] 67)).heap[w1.heap.size]? = _); have HBX := yM hbx; obtain ⟨x0, x1, x2, x3, x4, x5, xf, xl⟩ := c6 hbx; clear hbx)); clear hi3 hb3 hk3)
  all_goals
   have hs1 : w.heap.size < w1.heap.size := by have := HC2.out.size; simp at this; omega
   have hs3 : w.heap.size < w3.heap.size := by have := HC3.out.size; simp at this; omega
   go_wp2
   go_meet
   case rel =>
    first
     | exact ⟨w1.heap.size, rfl, ⟨num_set HI3.out HB3.out HC3.out HBX.out hs1 (by omega) _ _ _ _ _ _ HB.out.size⟩⟩
     | exact ⟨w3.heap.size, rfl, ⟨HI3.out.alloc _, ch_below HB3.out HI3.out.2 ((Ch.refl _ w3).alloc _), HC3.out.alloc _, hs3, by have := HI3.out.lt; omega, blk_new w3 _⟩⟩
 case rest =>
  obtain ⟨nb, rfl, HX⟩ := hcut
  obtain ⟨hi, hb, hc, hn1, hn2, hnb⟩ := HX.out
  have HI3 := yM hi
  have HB3 := yM hb
  have HC3 := yM hc
  have HN3 := yM hnb
  have HX3 := yM (box6 hc hlt)
  have n5 := hn2.symm
  have n6 : nb ≠ w.heap.size := by omega
  have n7 : w.heap.size ≠ nb := by omega
  clear c0 c1 c2 c3 cf lt hi hb hc hnb HX
  obtain ⟨c0, c1, c2, c3, cf, lt⟩ := s4 HI3.out
  obtain ⟨z0, z1, z2, z3, z4, z5, zf, zl⟩ := c6 HN3.out
  obtain ⟨y0, y1, y2, y3, y4, y5, yf, yl⟩ := c6 HX3.out
  have h := HH.out
  clear HH
  by_cases q1 : e1 = t3
  ·rw [if_pos q1] at h
   have k1 : (e1 == t3) = true := beq_iff_eq.mpr q1
   obtain ⟨⟨u7, u8, u9, u10⟩, A5, h⟩ := yO h
   have A6 := yM A5
   simp only [Option.some.injEq, Prod.mk.injEq] at h
   obtain ⟨rfl, rfl, rfl, rfl, rfl, rfl, rfl, rfl, rfl, rfl⟩ := h
   clear q1 A5
   go_wp2_with fail
   refine (T_fail.calls g _ _ _ _ _ _ _ _ _ _ w0 _ HI3.out HB3.out A6.out).mono ?_
   rintro e w6 ⟨rfl, hi6, hb6, hk6⟩
   have hch := keep_ch HB3.out hb6 hk6
   have hx := (hch.block w.heap.size yl (fun e => n2 e)).trans HX3.out
   have hn := (hch.block nb zl (fun e => hn2 e)).trans HN3.out
   have HI6 := yM hi6
   have HC6 := yM (HC3.out.trans hch)
   have HX6 := yM hx
   clear z0 z1 z2 z3 z4 z5 zf zl y0 y1 y2 y3 y4 y5 yf yl c0 c1 c2 c3 cf lt
   obtain ⟨y0, y1, y2, y3, y4, y5, yf, yl⟩ := c6 hx
   obtain ⟨z0, z1, z2, z3, z4, z5, zf, zl⟩ := c6 hn
   clear hi6 hb6 hk6 hx hn hch
   go_wp2
   refine bodyPost_ret (results_cell_row (P := Tryd.prog) rfl _ _ w.heap.size 67 #[.int .i64 4, .int .i64 _, .int .i64 _, .string ⟨#[]⟩, .slice none 0 0, .slice none 0 0] (0, 0) _ rfl (pset6 HX6.out _ _ _ _ _ _) Tryd.underlying67 rfl info67w) rfl ?_
   exact ⟨_, _, rfl, R67_nil _ _ _, R67_nil _ _ _, doc_end HI.out HB.out HI6.out HC6.out _ _ _ _ _ _⟩
  ·rw [if_neg q1] at h
   have k1 : (e1 == t3) = false := yB q1
   by_cases q2 : 0 ≤ t3
   ·rw [if_pos q2] at h
    by_cases q3 : t3 ≤ e1
    ·rw [if_pos q3] at h
     by_cases q4 : e1 ≤ (t2.size : Int)
     ·rw [if_pos q4] at h
      simp only [Option.some.injEq, Prod.mk.injEq] at h
      obtain ⟨rfl, rfl, rfl, rfl, rfl, rfl, rfl, rfl, rfl, rfl⟩ := h
      have p2 := eq_true q2
      have p3 := eq_true q3
      have p4 := eq_true q4
      clear q1 q2 q3 q4
      go_wp2
      refine start_ (n := 11) (S := fun w' => w'.cell? ⟨g, 0, none⟩ = some (.string t2) ∧ w'.cell? ⟨nb, 1, none⟩ = some (.int .i64 t3) ∧ w'.cell? ⟨nb, 2, none⟩ = some (.int .i64 e1)) (ds := [10]) #[false, false, false, false, false, false, false, false, false, false, false] (by kernel_rfl) rfl rfl ⟨(by simpa using c0), (by simpa using z1), (by simpa using z2)⟩ (fun hHeld => ?_)
      refine pure_ (i := 0) (N := some 66) (v := ?_) (a' := ?_) #[true, false, false, false, false, false, false, false, false, false, false] rfl rfl (by kernel_rfl) (fun _ _ _ h => h) (Or.inl ⟨by rfl, ?_⟩) ?_ ?_
      rotate_left
      ·intro w'
       go_simp
       with_reducible rfl
      rotate_left
      ·simp only [Act.put, yX, yY, yZ, i64_w, i32_w]
       rfl
      refine pure_ (i := 1) (N := some 67) (v := ?_) (a' := ?_) #[true, true, false, false, false, false, false, false, false, false, false] rfl rfl (by kernel_rfl) (fun _ _ _ h => h) (Or.inl ⟨by rfl, ?_⟩) ?_ ?_
      rotate_left
      ·intro w'
       go_simp
       with_reducible rfl
      rotate_left
      ·simp only [Act.put, yX, yY, yZ, i64_w, i32_w]
       rfl
      refine pure_ (i := 2) (N := some 68) (v := ?_) (a' := ?_) #[true, true, true, false, false, false, false, false, false, false, false] rfl rfl (by kernel_rfl) (fun _ _ _ h => h) (Or.inl ⟨by rfl, ?_⟩) ?_ ?_
      rotate_left
      ·intro w'
       go_simp
       with_reducible rfl
      rotate_left
      ·simp only [Act.put, yX, yY, yZ, i64_w, i32_w]
       rfl
      refine pure_ (i := 4) (N := some 70) (v := ?_) (a' := ?_) #[true, true, true, false, true, false, false, false, false, false, false] rfl rfl (by kernel_rfl) (fun _ _ _ h => h) (Or.inl ⟨by rfl, ?_⟩) ?_ ?_
      rotate_left
      ·intro w'
       go_simp
       with_reducible rfl
      rotate_left
      ·simp only [Act.put, yX, yY, yZ, i64_w, i32_w]
       rfl
      refine pure_ (i := 6) (N := some 72) (v := ?_) (a' := ?_) #[true, true, true, false, true, false, true, false, false, false, false] rfl rfl (by kernel_rfl) (fun _ _ _ h => h) (Or.inl ⟨by rfl, ?_⟩) ?_ ?_
      rotate_left
      ·intro w'
       go_simp
       with_reducible rfl
      rotate_left
      ·simp only [Act.put, yX, yY, yZ, i64_w, i32_w]
       rfl
      refine take_ (i := 3) (N := some 69) (v := ?_) (a' := ?_) #[true, true, true, true, true, false, true, false, false, false, false] rfl rfl (by kernel_rfl) (fun _ _ _ h => h) (Or.inl ⟨by rfl, ?_⟩) hHeld ?_ ?_
      rotate_left
      ·rintro w' ⟨s0, s1, s2⟩
       go_simp
       with_reducible rfl
      rotate_left
      ·simp only [Act.put, yX, yY, yZ, i64_w, i32_w]
       rfl
      refine take_ (i := 5) (N := some 71) (v := ?_) (a' := ?_) #[true, true, true, true, true, true, true, false, false, false, false] rfl rfl (by kernel_rfl) (fun _ _ _ h => h) (Or.inl ⟨by rfl, ?_⟩) hHeld ?_ ?_
      rotate_left
      ·rintro w' ⟨s0, s1, s2⟩
       go_simp
       with_reducible rfl
      rotate_left
      ·simp only [Act.put, yX, yY, yZ, i64_w, i32_w]
       rfl
      refine take_ (i := 7) (N := some 73) (v := ?_) (a' := ?_) #[true, true, true, true, true, true, true, true, false, false, false] rfl rfl (by kernel_rfl) (fun _ _ _ h => h) (Or.inl ⟨by rfl, ?_⟩) hHeld ?_ ?_
      rotate_left
      ·rintro w' ⟨s0, s1, s2⟩
       go_simp
       with_reducible rfl
      rotate_left
      ·simp only [Act.put, yX, yY, yZ, i64_w, i32_w]
       rfl
      refine pure_ (i := 8) (N := some 74) (v := ?_) (a' := ?_) #[true, true, true, true, true, true, true, true, true, false, false] rfl rfl (by kernel_rfl) (fun _ _ _ h => h) (Or.inl ⟨by rfl, ?_⟩) ?_ ?_
      rotate_left
      ·intro w'
       go_simp
       with_reducible rfl
      rotate_left
      ·simp only [Act.put, yX, yY, yZ, i64_w, i32_w]
       rfl
      refine pure_ (i := 9) (N := some 75) (v := ?_) (a' := ?_) #[true, true, true, true, true, true, true, true, true, true, false] rfl rfl (by kernel_rfl) (fun _ _ _ h => h) (Or.inl ⟨by rfl, ?_⟩) ?_ ?_
      rotate_left
      ·intro w'
       go_simp
       with_reducible rfl
      rotate_left
      ·simp only [Act.put, yX, yY, yZ, i64_w, i32_w]
       rfl
      refine last_ (i := 10) (N := none) #[true, true, true, true, true, true, true, true, true, true, true] rfl rfl (by kernel_rfl) (by decide) (fun K hK => ?_)
      refine skip_ (w1 := ?_) (by rfl) rfl ?_ ?_
      rotate_left
      ·go_simp
       rfl
      refine hK.out _ _ ?_
      clear hK K
      refine done_ (by kernel_rfl) ?_
      obtain ⟨tx, htx⟩ : ∃ tx, tx = t2.extract (t3 : Int).toNat (e1 : Int).toNat := ⟨_, rfl⟩
      obtain ⟨w5, hw5⟩ : ∃ w5, w5 = (wc.setCell ⟨nb, 3, none⟩ (.string tx)).drew := ⟨_, rfl⟩
      have HI5 := yM (show IsS79 w0 w5 g t2 t3 t4 t5 from hw5 ▸ (HI3.out.far n5 _).drew)
      have HC5 := yM (show Ch (· = g) (w.alloc (.cells #[.int .i64 0, .int .i64 0, .int .i64 0, .string ⟨#[]⟩, .slice none 0 0, .slice none 0 0] 67)) w5 from hw5 ▸ (HC3.out.set (fun h => by simp at h; omega) _).drew)
      have HX5 := yM (show w5.heap[w.heap.size]? = some (.cells #[.int .i64 0, .int .i64 0, .int .i64 0, .string ⟨#[]⟩, .slice none 0 0, .slice none 0 0] 67 (0, 0)) from hw5 ▸ bx_st HX3.out n7 3 _)
      have HN5 := yM (show w5.heap[nb]? = some (.cells #[.int .i64 4, .int .i64 t3, .int .i64 e1, .string tx, .slice none 0 0, .slice none 0 0] 67 (0, 0)) from hw5 ▸ pset HN3.out 3 _)
      have HTX := yM htx
      rw [← htx, ← hw5]
      clear hHeld hw5 htx c0 c1 c2 c3 cf lt z0 z1 z2 z3 z4 z5 zf zl y0 y1 y2 y3 y4 y5 yf yl HI3 HC3 HX3 HN3 p2 p3 p4
      obtain ⟨c0, c1, c2, c3, cf, lt⟩ := s4 HI5.out
      obtain ⟨z0, z1, z2, z3, z4, z5, zf, zl⟩ := c6 HN5.out
      obtain ⟨y0, y1, y2, y3, y4, y5, yf, yl⟩ := c6 HX5.out
      go_wp2
      have hX9 : (w5.setCell ⟨g, 1, none⟩ (.int .i64 e1)).heap[w.heap.size]? = some (.cells #[.int .i64 0, .int .i64 0, .int .i64 0, .string ⟨#[]⟩, .slice none 0 0, .slice none 0 0] 67 (0, 0)) := bx_st HX5.out n2 1 _
      refine bodyPost_ret (results_cell_row (P := Tryd.prog) rfl _ _ w.heap.size 67 #[.int .i64 4, .int .i64 t3, .int .i64 e1, .string tx, .slice none 0 0, .slice none 0 0] (0, 0) _ rfl (pset6 hX9 _ _ _ _ _ _) Tryd.underlying67 rfl info67w) rfl ?_
      have hI9 : IsS79 w0 (w5.setCell ⟨g, 1, none⟩ (.int .i64 e1)) g t2 e1 t4 t5 := HI5.out.set_1 e1
      have hC9 : Ch (· = g) (w.alloc (.cells #[.int .i64 0, .int .i64 0, .int .i64 0, .string ⟨#[]⟩, .slice none 0 0, .slice none 0 0] 67)) (w5.setCell ⟨g, 1, none⟩ (.int .i64 e1)) := HC5.out.set (fun _ => rfl) _
      have he := doc_end HI.out HB.out hI9 hC9 (.int .i64 4) (.int .i64 t3) (.int .i64 e1) (.string tx) (.slice none 0 0) (.slice none 0 0)
      have e := HTX.out
      subst e
      exact ⟨_, _, rfl, R67_nil _ _ _, R67_nil _ _ _, he⟩
     ·rw [if_neg q4] at h; cases h
    ·rw [if_neg q3] at h; cases h
   ·rw [if_neg q2] at h; cases h
set_option maxHeartbeats 8000000 in
set_option maxRecDepth 100000 in
theorem value_step (op : Int) (h0 : 0 ≤ op) (ih : ∀ o : Int, op < o → o ≤ 200 → VC o) : VC op := by
 intro k g s0_0 s0_1 s0_2 s0_3 r1 r2 r3 r4 r5 r6 r7 r8 r9 r10 w0 w hI hB h
 cases k with
 | zero => simp [T_value.f] at h
 | succ k =>
  have h2 := h
  rw [T_value.f] at h2
  obtain ⟨⟨t1, t2, t3, t4, t5⟩, A0, _⟩ := yO h2
  clear h2
  by_cases g123 : t1 = 123
  ·exact value_123 op h0 ih k g s0_0 s0_1 s0_2 s0_3 r1 r2 r3 r4 r5 r6 r7 r8 r9 r10 w0 w hI hB h t1 t2 t3 t4 t5 A0 g123
  by_cases g91 : t1 = 91
  ·exact value_91 op h0 ih k g s0_0 s0_1 s0_2 s0_3 r1 r2 r3 r4 r5 r6 r7 r8 r9 r10 w0 w hI hB h t1 t2 t3 t4 t5 A0 g123 g91
  by_cases g34 : t1 = 34
  ·exact value_34 op h0 ih k g s0_0 s0_1 s0_2 s0_3 r1 r2 r3 r4 r5 r6 r7 r8 r9 r10 w0 w hI hB h t1 t2 t3 t4 t5 A0 g123 g91 g34
  by_cases g116 : t1 = 116
  ·exact value_116 op h0 ih k g s0_0 s0_1 s0_2 s0_3 r1 r2 r3 r4 r5 r6 r7 r8 r9 r10 w0 w hI hB h t1 t2 t3 t4 t5 A0 g123 g91 g34 g116
  by_cases g102 : t1 = 102
  ·exact value_102 op h0 ih k g s0_0 s0_1 s0_2 s0_3 r1 r2 r3 r4 r5 r6 r7 r8 r9 r10 w0 w hI hB h t1 t2 t3 t4 t5 A0 g123 g91 g34 g116 g102
  by_cases g110 : t1 = 110
  ·exact value_110 op h0 ih k g s0_0 s0_1 s0_2 s0_3 r1 r2 r3 r4 r5 r6 r7 r8 r9 r10 w0 w hI hB h t1 t2 t3 t4 t5 A0 g123 g91 g34 g116 g102 g110
  exact value_0 op h0 ih k g s0_0 s0_1 s0_2 s0_3 r1 r2 r3 r4 r5 r6 r7 r8 r9 r10 w0 w hI hB h t1 t2 t3 t4 t5 A0 g123 g91 g34 g116 g102 g110
theorem value_VC : ∀ (n : Nat) (op : Int), 0 ≤ op → (200 - op).toNat ≤ n → VC op
 | 0, op, h0, hn => value_step op h0 (fun o h1 h2 => by omega)
 | n + 1, op, h0, hn => value_step op h0 (fun o h1 h2 => value_VC n o (by omega) (by omega))
end Go.Proofs.YtbpiahpkbapijaaDoor.J
end
section
namespace Go.Proofs.YtbpiahpkbapijaaDoor.J
open Go.RowKit Go.Proofs.YtbpiahpkbapijaaDoorW.PrintWords Go.Proofs.YtbpiahpkbapijaaDoorW.PrintLast Go.Proofs.YtbpiahpkbapijaaDoorW.PrintMore
set_option linter.unusedVariables false
set_option linter.unusedSimpArgs false
def app1 (l : List Int) (c : Int) : Option (List Int) := if l.length < 140737488355328 then some (l ++ [c]) else none
def cutAt (s : ByteArray) (a b : Int) : Option ByteArray := if 0 ≤ a then (if a ≤ b then (if b ≤ (s.size : Int) then some (s.extract a.toNat b.toNat) else none) else none) else none
def byteAt (s : ByteArray) (a : Int) : Option Int := if 0 ≤ a then (if a < (s.size : Int) then some (bt s a) else none) else none
mutual
def tight.f : Nat → List Int → ByteArray → S67 → Option (List Int)
 | 0, _, _, _ => none
 | k + 1, l, s, n =>
  if n.f0 = 1 ∨ n.f0 = 2 then (byteAt s n.f1).bind fun c => (app1 l c).bind fun l1 => tight.l k l1 s n 0
  else (cutAt s n.f1 n.f2).bind fun x => R_token.f k l x
def tight.l : Nat → List Int → ByteArray → S67 → Nat → Option (List Int)
 | 0, _, _, _, _ => none
 | k + 1, l, s, n, i =>
  if i < n.f5.length then
   (if i = 0 then some l else app1 l 44).bind fun l1 =>
    (if n.f0 = 1 then (if i < n.f4.length then (cutAt s (n.f4.getD i z67).f1 (n.f4.getD i z67).f2).bind fun x => (R_token.f k l1 x).bind fun l2 => app1 l2 58 else none) else some l1).bind fun l3 =>
     (tight.f k l3 s (n.f5.getD i z67)).bind fun l4 => tight.l k l4 s n (i + 1)
  else (byteAt s (wrap64 (n.f2 - 1))).bind fun c => app1 l c
end
structure TR (w0 w : World) (u : Value) (l : List Int) : Prop where
 row : Kd.R (Kd.int .u8) 5 w w0.heap.size (fun k => some k = u.ownBlock) u l
 bel : Below w0.heap.size w0 w
theorem TR.of {w0 w : World} {u : Value} {l : List Int} {ok : Nat → Prop} (h : Kd.R (Kd.int .u8) 5 w w0.heap.size ok u l) (hb : Below w0.heap.size w0 w) : TR w0 w u l := ⟨Kd.R_tight rfl h, hb⟩
structure TS (w w' : World) (u u' : Value) : Prop where
 kept : Kept w w' (fun k => some k = u.ownBlock)
 own : ∀ k, u'.ownBlock = some k → u.ownBlock = some k ∨ w.heap.size ≤ k
theorem TS.refl (w : World) (u : Value) : TS w w u u := ⟨⟨Nat.le_refl _, fun _ _ _ => rfl⟩, fun _ h => .inl h⟩
theorem TS.trans {w w1 w2 : World} {u u1 u2 : Value} (h : TS w w1 u u1) (k : TS w1 w2 u1 u2) : TS w w2 u u2 :=
 ⟨⟨Nat.le_trans h.kept.1 k.kept.1, fun i hi hn => (k.kept.2 i (Nat.lt_of_lt_of_le hi h.kept.1) (fun e => (h.own i e.symm).elim (fun e => hn e.symm) (fun e => by omega))).trans (h.kept.2 i hi hn)⟩,
  fun i hi => (k.own i hi).elim (h.own i) (fun e => .inr (Nat.le_trans h.kept.1 e))⟩
theorem TS.fr {w w1 w2 : World} {u u1 : Value} (h : TS w w1 u u1) [f : Fr w1 w2] : TS w w2 u u1 :=
 ⟨⟨Nat.le_trans h.kept.1 (Fr.out f).size, fun i hi hn => ((Fr.out f).block i (Nat.lt_of_lt_of_le hi h.kept.1)).trans (h.kept.2 i hi hn)⟩, h.own⟩
theorem TR.fr {w0 w1 w2 : World} {u : Value} {l : List Int} (h : TR w0 w1 u l) [f : Fr w1 w2] : TR w0 w2 u l :=
 ⟨Kd.R_below h.row (Fr.out f), h.bel.trans ⟨(Fr.out f).os, (Fr.out f).tape, (Fr.out f).output, (Fr.out f).size, fun i hi => (Fr.out f).block i (Nat.lt_of_lt_of_le hi h.bel.size)⟩⟩
theorem wp_byte {w0 w : World} {ops : Array Oper} {rest : List Oper} {o : Oper} {a : Act} {Q : Exit → Act → World → Prop} (hgd : o.guard = none) (sl x : Operand)
  (ho : o.op = .call { callee := .builtin .append, args := #[sl, x], argTypes := #[49, 49] }) (u : Value) (l : List Int) (c : Int) (hs : a.eval sl = u) (T : TR w0 w u l) (hx : a.eval x = .slice (some ⟨w.heap.size, 0, none⟩) 1 1) (hl : l.length < 140737488355328)
  (h : ∀ A n c' w', TR w0 w' (.slice A n c') (l ++ [c]) → TS w w' u (.slice A n c') → wpList Tryd.prog ops Q rest (a.put o.dst (.slice A n c')) w') : wpList Tryd.prog ops Q (o :: rest) a (w.alloc (.cells #[.int .u8 c] 5)) := by
 refine Kd.R_append (Kd.int .u8) (w0 := w0) w0.heap.size hgd sl x 49 5 (.int .u8 0) 1 ho Tryd.underlying49 info5 rfl (by decide) (by omega) u l c [.int .u8 c] (fun k => some k = u.ownBlock ∨ w.heap.size ≤ k) (fun _ => False) hs hx rfl (fun _ hk => hk.elim) (fun _ hk => .inr hk) (Kd.R_mono T.row (fun _ hk => .inl hk)) T.bel T.bel.size (by omega) ?_
 intro v1 w1 ho hb hg hat
 obtain ⟨A, c', rfl⟩ := Kd.R_slice ho
 exact h A _ c' w1 (TR.of ho hb) ⟨⟨hg.size, fun i hi hn => hg.block i hi (fun e => hn e)⟩, fun i hi => hat.elim (fun e => .inl (e ▸ hi)) (fun ⟨b, e, hb⟩ => .inr (by rw [e] at hi; obtain rfl := Option.some.inj hi; exact hb))⟩
theorem M_at {w0 w w' : World} {n : S67} {cs : List Value} (h : k67.M w 0 (fun k => k < w0.heap.size) n cs) (hb : Below w0.heap.size w0 w) (hb' : Below w0.heap.size w0 w') : k67.M w' 0 (fun k => k < w0.heap.size) n cs :=
 k67.M_move (fun k hk => (hb'.block k hk).trans (hb.block k hk).symm) h
theorem child {w : World} {B : Nat} {v : Value} {xs : List S67} (h : k67.R 67 w 0 (fun k => k < B) v xs) (i : Nat) (hi : i < xs.length) : ∃ g c cs, v = .slice (some ⟨g, 0, none⟩) xs.length c ∧ k67.M w 0 (fun k => k < B) (xs.getD i z67) cs ∧ ∀ j u, cs[j]? = some u → w.cell? ⟨g, i * 6 + j, none⟩ = some u := by
 obtain ⟨ad, c, rfl⟩ := Kd.R_slice1 h (by omega)
 obtain ⟨g, rfl⟩ := Kd.R_head h
 obtain ⟨cs, _, hm, hc⟩ := Kd.R_getA h z67 (i : Int) (by omega) (by omega)
 refine ⟨g, c, cs, rfl, k67.M_mono (fun k hk => hk.1) hm, fun j u hj => ?_⟩
 have := hc j u hj
 have e : k67.sz = 6 := rfl
 rw [add_plain, e] at this
 simpa using this
theorem cutAt_some {s : ByteArray} {a b : Int} {x : ByteArray} (h : cutAt s a b = some x) : 0 ≤ a ∧ a ≤ b ∧ b ≤ (s.size : Int) ∧ x = s.extract a.toNat b.toNat := by
 unfold cutAt at h
 repeat' split at h
 all_goals first
  | cases h; done
  | exact ⟨by assumption, by assumption, by assumption, (Option.some.inj h).symm⟩
theorem byteAt_some {s : ByteArray} {a c : Int} (h : byteAt s a = some c) : 0 ≤ a ∧ a < (s.size : Int) ∧ c = bt s a := by
 unfold byteAt at h
 repeat' split at h
 all_goals first
  | cases h; done
  | exact ⟨by assumption, by assumption, (Option.some.inj h).symm⟩
theorem app1_some {l l1 : List Int} {c : Int} (h : app1 l c = some l1) : l.length < 140737488355328 ∧ l1 = l ++ [c] := by
 unfold app1 at h
 split at h
 ·exact ⟨by assumption, (Option.some.inj h).symm⟩
 ·cases h
theorem open5 {w : World} {b : Nat} {ok : Nat → Prop} {n : S67} {x0 x1 x2 x3 v4 v5 : Value} (h : k67.M w b ok n [x0, x1, x2, x3, v4, v5]) : k67.R 67 w b ok v4 n.f4 ∧ k67.R 67 w b ok v5 n.f5 := by
 obtain ⟨w4, w5, e, h4, h5⟩ := k67_openM h
 simp only [List.cons.injEq, and_true] at e
 obtain ⟨_, _, _, _, rfl, rfl⟩ := e
 exact ⟨h4, h5⟩
theorem ccells {w : World} {g o : Nat} {a b c d e f : Value} (h : ∀ j u, [a, b, c, d, e, f][j]? = some u → w.cell? ⟨g, o + j, none⟩ = some u) : w.cell? ⟨g, o, none⟩ = some a ∧ w.cell? ⟨g, o + 1, none⟩ = some b ∧ w.cell? ⟨g, o + 2, none⟩ = some c ∧ w.cell? ⟨g, o + 3, none⟩ = some d ∧ w.cell? ⟨g, o + 4, none⟩ = some e ∧ w.cell? ⟨g, o + 5, none⟩ = some f :=
 ⟨h 0 _ rfl, h 1 _ rfl, h 2 _ rfl, h 3 _ rfl, h 4 _ rfl, h 5 _ rfl⟩
theorem R67_len {w : World} {b : Nat} {ok : Nat → Prop} {v : Value} {l : List S67} (h : k67.R 67 w b ok v l) : l.length ≤ 9223372036854775807 := by
 obtain ⟨inner, ho⟩ := Kd.R_own h
 rcases ho.2 with ⟨_, e⟩ | ⟨g, cap, cur, _, _, _, e1, e2, _⟩
 ·omega
 ·unfold maxLen at e2; omega
def TPost (w0 w : World) (u : Value) (r : List Int) (e : Ending) (w' : World) : Prop := ∃ u', e = .returned u' ∧ TR w0 w' u' r ∧ TS w w' u u'
theorem token_T (k : Nat) (u : Value) (l : List Int) (x : ByteArray) (r : List Int) (w0 w : World) (T : TR w0 w u l) (h : R_token.f k l x = some r) : Calls Tryd.prog 35 #[u, .string x] w (TPost w0 w u r) := by
 refine (R_token.calls k (fun k => some k = u.ownBlock) u l x r w0 w T.bel T.row h).mono ?_
 rintro e w' ⟨u', rfl, hr, hb, hk⟩
 exact ⟨u', rfl, TR.of hr hb, hk, fun k hk' => (hr.1 k hk').imp (fun e => e.symm) id⟩
def TOK (k : Nat) : Prop := ∀ l s n r, tight.f k l s n = some r → ∀ w0 w cs u, k67.M w 0 (fun k => k < w0.heap.size) n cs → TR w0 w u l → Calls Tryd.prog 19 #[u, .string s, .agg cs.toArray] w (TPost w0 w u r)
theorem TS.box {w w2 : World} {u u2 : Value} {cs : Array Value} {B : Nat} {ok : Nat → Prop} {l : List Int} (h : TS w w2 u u2) (hr : Kd.R (Kd.int .u8) 5 w B ok u l) {nb : Nat} (hb : w.heap[nb]? = some (.cells cs 67 (0, 0))) : w2.heap[nb]? = some (.cells cs 67 (0, 0)) := by
 obtain ⟨inner, ho⟩ := Kd.R_own hr
 exact (h.kept.2 nb (Array.getElem?_eq_some_iff.1 hb).1 (fun e => own_ne_ ho hb (by decide) e.symm)).trans hb
set_option maxHeartbeats 8000000 in
set_option maxRecDepth 100000 in
theorem tight_calls (k : Nat) (ih : ∀ j, j < k + 1 → TOK j) : TOK (k + 1) := by
 intro l s n r h w0 w cs u hM T
 obtain ⟨v4, v5, rfl, g4, g5⟩ := k67_openM hM
 obtain ⟨A4, c4, rfl⟩ := Kd.R_slice g4
 obtain ⟨A5, c5, rfl⟩ := Kd.R_slice g5
 have HM := yM hM
 have HT := yM T
 obtain ⟨nb, hnb⟩ : ∃ nb, nb = w.heap.size := ⟨_, rfl⟩
 have HBX := yM (blk_new w (.cells #[.int .i64 n.f0, .int .i64 n.f1, .int .i64 n.f2, .string n.f3, .slice A4 n.f4.length c4, .slice A5 n.f5.length c5] 67))
 clear hM g4 g5 T
 unfold tight.f at h
 by_cases hk : n.f0 = 1 ∨ n.f0 = 2
 ·rw [if_pos hk] at h
  obtain ⟨c, hc, h⟩ := yO h
  obtain ⟨l1, hl1, h⟩ := yO h
  obtain ⟨p1, p2, rfl⟩ := byteAt_some hc
  obtain ⟨p3, rfl⟩ := app1_some hl1
  have q1 := eq_true p1
  have q2 := eq_true p2
  have hx := bt_at s n.f1
  have HH := yM h
  clear h hc hl1 p1 p2
  rcases hk with hk | hk
  ·have b1 : (n.f0 != 1) = false := by simp [hk]
   have b3 : (n.f0 == 1) = true := by simp [hk]
   have HK := yM hk
   clear hk
   go_enter Tryd.func19, Tryd.ntmps19
   go_wp2_with (at_builtin; refine wp_byte (w0 := w0) rfl _ _ rfl u l (bt s n.f1) rfl HT.out.fr (by first | rfl | simp [Act.eval]) p3 ?_; intro A1 n1 c1 w2 T2 S2; have HT2 := yM T2; have HS2 := yM (((TS.refl w u).fr : TS w (w.alloc (.cells #[.int .i64 n.f0, .int .i64 n.f1, .int .i64 n.f2, .string n.f3, .slice A4 n.f4.length c4, .slice A5 n.f5.length c5] 67)) u u).trans S2); have HX2 := yM (S2.box (HT.out.fr (w2 := w.alloc (.cells #[.int .i64 n.f0, .int .i64 n.f1, .int .i64 n.f2, .string n.f3, .slice A4 n.f4.length c4, .slice A5 n.f5.length c5] 67))).row HBX.out); clear T2 S2)
   go_loopg [0, 7] k (fun kq v0 v7 w' => ∃ (i : Nat) (l' : List Int) (A1 : Option Addr) (n1 c1 : Nat), v0 = .slice A1 n1 c1 ∧ v7 = .int .i64 (i : Int) ∧ Aside0 (tight.l kq l' s n i = some r ∧ kq ≤ k) ∧ Aside0 (TR w0 w' (.slice A1 n1 c1) l') ∧ Aside0 (TS w w' u (.slice A1 n1 c1)) ∧ Aside0 (w'.heap[w.heap.size]? = some (.cells #[.int .i64 n.f0, .int .i64 n.f1, .int .i64 n.f2, .string n.f3, .slice A4 n.f4.length c4, .slice A5 n.f5.length c5] 67 (0, 0))))
   case atStart => exact ⟨0, _, _, _, _, rfl, rfl, ⟨HH.out, Nat.le_refl _⟩, HT2, HS2, HX2⟩
   case round =>
    clear HT2 HS2 HX2 HH
    obtain ⟨i, l', A1, n1, c1, rfl, rfl, HR, HT2, HS2, HX2⟩ := hrel
    obtain ⟨hr, hkq⟩ := HR.out
    cases gk with
    | zero => simp [tight.l] at hr
    | succ k1 =>
     unfold tight.l at hr
     obtain ⟨z0, z1, z2, z3, z4, z5, zf, zl⟩ := c6 HX2.out
     by_cases hi : i < n.f5.length
     ·rw [if_pos hi] at hr
      obtain ⟨la, hla, hr⟩ := yO hr
      obtain ⟨lb, hlb, hr⟩ := yO hr
      obtain ⟨lc, hlc, hr⟩ := yO hr
      have b5 : decide ((i : Int) < (n.f5.length : Int)) = true := decide_eq_true (by omega)
      have b5' : decide (i < n.f5.length) = true := decide_eq_true hi
      have b5'' : i < n.f5.length := hi
      have HLA := yM hla
      have HLB := yM hlb
      have HLC := yM hlc
      have HRR := yM hr
      have HIL := yM hi
      clear hla hlb hlc hr hi HR
      by_cases h0 : i = 0
      ·have hla := HLA.out
       rw [if_pos h0] at hla
       obtain rfl := Option.some.inj hla
       have b6 : decide ((i : Int) > 0) = false := decide_eq_false (by omega)
       have b6' : decide (0 < i) = false := decide_eq_false (by omega)
       have b6'' : ¬ (0 < i) := by omega
       clear h0 hla
       go_upto_if 45 with fail
       have hlb := HLB.out
       rw [if_pos HK.out] at hlb
       by_cases h4 : i < n.f4.length
       ·rw [if_pos h4] at hlb
        obtain ⟨x, hx4, hlb⟩ := yO hlb
        obtain ⟨l2, hl2, hlb⟩ := yO hlb
        obtain ⟨p9, rfl⟩ := app1_some hlb
        obtain ⟨nm, hnm⟩ : ∃ m, m = n.f4.getD i z67 := ⟨_, rfl⟩
        rw [← hnm] at hx4
        obtain ⟨t1, t2, t3, rfl⟩ := cutAt_some hx4
        have HTK := yM hl2
        have HM2 := yM (M_at HM.out HT.out.bel HT2.out.bel)
        obtain ⟨gn, cn, ccs, es, hcm, hcc⟩ := child (open5 HM2.out).1 i h4
        rw [← hnm] at hcm
        obtain ⟨hA4, hc4⟩ : A4 = some ⟨gn, 0, none⟩ ∧ c4 = cn := by injection es with e1 e2 e3; exact ⟨e1, e3⟩
        obtain ⟨v4, v5, rfl, _, _⟩ := k67_openM hcm
        obtain ⟨x0, x1, x2, x3, x4, x5⟩ := ccells hcc
        have s1 := eq_true t1
        have s2 := eq_true t2
        have s3 := eq_true t3
        have h4b : decide (i < n.f4.length) = true := decide_eq_true h4
        rw [hA4, hc4] at z4
        clear hA4 hc4 hcc es hcm hx4 hl2 hlb t1 t2 t3 hnm HLA
        go_wp2
        refine start_ (n := 17) (S := fun w' => w'.cell? ⟨w.heap.size, 4, none⟩ = some (.slice (some ⟨gn, 0, none⟩) n.f4.length cn) ∧ w'.cell? ⟨gn, i * 6 + 1, none⟩ = some (.int .i64 nm.f1) ∧ w'.cell? ⟨gn, i * 6 + 2, none⟩ = some (.int .i64 nm.f2)) (ds := [15]) #[false, false, false, false, false, false, false, false, false, false, false, false, false, false, false, false, false] (by kernel_rfl) rfl rfl ⟨(by simpa using z4), (by simpa using x1), (by simpa using x2)⟩ (fun hHeld => ?_)
        refine pure_ (i := 0) (N := some 46) (v := ?_) (a' := ?_) #[true, false, false, false, false, false, false, false, false, false, false, false, false, false, false, false, false] rfl rfl (by kernel_rfl) (fun _ _ _ h => h) (Or.inl ⟨by rfl, ?_⟩) ?_ ?_
        rotate_left
        ·intro w'
         go_simp
         with_reducible rfl
        rotate_left
        ·simp only [Act.put, yX, yY, yZ, i64_w, i32_w]
         rfl
        refine pure_ (i := 1) (N := some 47) (v := ?_) (a' := ?_) #[true, true, false, false, false, false, false, false, false, false, false, false, false, false, false, false, false] rfl rfl (by kernel_rfl) (fun _ _ _ h => h) (Or.inl ⟨by rfl, ?_⟩) ?_ ?_
        rotate_left
        ·intro w'
         go_simp
         with_reducible rfl
        rotate_left
        ·simp only [Act.put, yX, yY, yZ, i64_w, i32_w]
         rfl
        refine pure_ (i := 2) (N := some 48) (v := ?_) (a' := ?_) #[true, true, true, false, false, false, false, false, false, false, false, false, false, false, false, false, false] rfl rfl (by kernel_rfl) (fun _ _ _ h => h) (Or.inl ⟨by rfl, ?_⟩) ?_ ?_
        rotate_left
        ·intro w'
         go_simp
         with_reducible rfl
        rotate_left
        ·simp only [Act.put, yX, yY, yZ, i64_w, i32_w]
         rfl
        refine pure_ (i := 4) (N := some 50) (v := ?_) (a' := ?_) #[true, true, true, false, true, false, false, false, false, false, false, false, false, false, false, false, false] rfl rfl (by kernel_rfl) (fun _ _ _ h => h) (Or.inl ⟨by rfl, ?_⟩) ?_ ?_
        rotate_left
        ·intro w'
         go_simp
         with_reducible rfl
        rotate_left
        ·simp only [Act.put, yX, yY, yZ, i64_w, i32_w]
         rfl
        refine pure_ (i := 8) (N := some 54) (v := ?_) (a' := ?_) #[true, true, true, false, true, false, false, false, true, false, false, false, false, false, false, false, false] rfl rfl (by kernel_rfl) (fun _ _ _ h => h) (Or.inl ⟨by rfl, ?_⟩) ?_ ?_
        rotate_left
        ·intro w'
         go_simp
         with_reducible rfl
        rotate_left
        ·simp only [Act.put, yX, yY, yZ, i64_w, i32_w]
         rfl
        refine pure_ (i := 10) (N := some 56) (v := ?_) (a' := ?_) #[true, true, true, false, true, false, false, false, true, false, true, false, false, false, false, false, false] rfl rfl (by kernel_rfl) (fun _ _ _ h => h) (Or.inl ⟨by rfl, ?_⟩) ?_ ?_
        rotate_left
        ·intro w'
         go_simp
         with_reducible rfl
        rotate_left
        ·simp only [Act.put, yX, yY, yZ, i64_w, i32_w]
         rfl
        refine take_ (i := 3) (N := some 49) (v := ?_) (a' := ?_) #[true, true, true, true, true, false, false, false, true, false, true, false, false, false, false, false, false] rfl rfl (by kernel_rfl) (fun _ _ _ h => h) (Or.inl ⟨by rfl, ?_⟩) hHeld ?_ ?_
        rotate_left
        ·rintro w' ⟨s0, s1, s2⟩
         go_simp
         with_reducible rfl
        rotate_left
        ·simp only [Act.put, yX, yY, yZ, i64_w, i32_w]
         rfl
        refine pure_ (i := 5) (N := some 51) (v := ?_) (a' := ?_) #[true, true, true, true, true, true, false, false, true, false, true, false, false, false, false, false, false] rfl rfl (by kernel_rfl) (fun _ _ _ h => h) (Or.inl ⟨by rfl, ?_⟩) ?_ ?_
        rotate_left
        ·intro w'
         go_simp
         with_reducible rfl
        rotate_left
        ·simp only [Act.put, yX, yY, yZ, i64_w, i32_w]
         rfl
        refine pure_ (i := 6) (N := some 52) (v := ?_) (a' := ?_) #[true, true, true, true, true, true, true, false, true, false, true, false, false, false, false, false, false] rfl rfl (by kernel_rfl) (fun _ _ _ h => h) (Or.inl ⟨by rfl, ?_⟩) ?_ ?_
        rotate_left
        ·intro w'
         go_simp
         with_reducible rfl
        rotate_left
        ·simp only [Act.put, yX, yY, yZ, i64_w, i32_w]
         rfl
        refine take_ (i := 7) (N := some 53) (v := ?_) (a' := ?_) #[true, true, true, true, true, true, true, true, true, false, true, false, false, false, false, false, false] rfl rfl (by kernel_rfl) (fun _ _ _ h => h) (Or.inl ⟨by rfl, ?_⟩) hHeld ?_ ?_
        rotate_left
        ·rintro w' ⟨s0, s1, s2⟩
         go_simp
         with_reducible rfl
        rotate_left
        ·simp only [Act.put, yX, yY, yZ, i64_w, i32_w]
         rfl
        refine take_ (i := 9) (N := some 55) (v := ?_) (a' := ?_) #[true, true, true, true, true, true, true, true, true, true, true, false, false, false, false, false, false] rfl rfl (by kernel_rfl) (fun _ _ _ h => h) (Or.inl ⟨by rfl, ?_⟩) hHeld ?_ ?_
        rotate_left
        ·rintro w' ⟨s0, s1, s2⟩
         go_simp
         with_reducible rfl
        rotate_left
        ·simp only [Act.put, yX, yY, yZ, i64_w, i32_w]
         rfl
        refine pure_ (i := 11) (N := some 57) (v := ?_) (a' := ?_) #[true, true, true, true, true, true, true, true, true, true, true, true, false, false, false, false, false] rfl rfl (by kernel_rfl) (fun _ _ _ h => h) (Or.inl ⟨by rfl, ?_⟩) ?_ ?_
        rotate_left
        ·intro w'
         go_simp
         with_reducible rfl
        rotate_left
        ·simp only [Act.put, yX, yY, yZ, i64_w, i32_w]
         rfl
        refine pure_ (i := 12) (N := some 58) (v := ?_) (a' := ?_) #[true, true, true, true, true, true, true, true, true, true, true, true, true, false, false, false, false] rfl rfl (by kernel_rfl) (fun _ _ _ h => h) (Or.inl ⟨by rfl, ?_⟩) ?_ ?_
        rotate_left
        ·intro w'
         go_simp
         with_reducible rfl
        rotate_left
        ·simp only [Act.put, yX, yY, yZ, i64_w, i32_w]
         rfl
        refine take_ (i := 13) (N := some 59) (v := ?_) (a' := ?_) #[true, true, true, true, true, true, true, true, true, true, true, true, true, true, false, false, false] rfl rfl (by kernel_rfl) (fun _ _ _ h => h) (Or.inl ⟨by rfl, ?_⟩) hHeld ?_ ?_
        rotate_left
        ·rintro w' ⟨s0, s1, s2⟩
         go_simp
         with_reducible rfl
        rotate_left
        ·simp only [Act.put, yX, yY, yZ, i64_w, i32_w]
         rfl
        refine pure_ (i := 14) (N := some 60) (v := ?_) (a' := ?_) #[true, true, true, true, true, true, true, true, true, true, true, true, true, true, true, false, false] rfl rfl (by kernel_rfl) (fun _ _ _ h => h) (Or.inl ⟨by rfl, ?_⟩) ?_ ?_
        rotate_left
        ·intro w'
         go_simp
         with_reducible rfl
        rotate_left
        ·simp only [Act.put, yX, yY, yZ, i64_w, i32_w]
         rfl
        refine last_ (i := 15) (N := some 61) #[true, true, true, true, true, true, true, true, true, true, true, true, true, true, true, true, false] rfl rfl (by kernel_rfl) (by decide) (fun K hK => ?_)
        refine goes_ Tryd.func35 (by kernel_rfl) rfl #[.slice A1 n1 c1, .string (s.extract nm.f1.toNat nm.f2.toNat)] (by rfl) rfl rfl (by simp only [List.map_toArray, List.map_cons, List.map_nil]; rfl) ?_
        with_reducible refine (token_T k1 _ _ _ l2 w0 _ HT2.out.fr HTK.out).mono ?_
        rintro e w4 ⟨u4, rfl, T4, S4⟩
        refine ⟨_, rfl, ?_⟩
        refine hK.out _ _ ?_
        clear hK K
        refine norm_ (a' := ?_) ?_ ?_
        rotate_left
        ·show Act.put _ (some 61) _ = _
         simp only [Act.put, yX, yY, yZ, i64_w, i32_w]
         rfl
        refine pure_ (i := 16) (N := some 0) (v := ?_) (a' := ?_) #[true, true, true, true, true, true, true, true, true, true, true, true, true, true, true, true, true] rfl rfl (by kernel_rfl) (fun _ _ _ h => h) (Or.inl ⟨by rfl, ?_⟩) ?_ ?_
        rotate_left
        ·intro w'
         go_simp
         with_reducible rfl
        rotate_left
        ·simp only [Act.put, yX, yY, yZ, i64_w, i32_w]
         rfl
        refine done_ (by kernel_rfl) ?_
        obtain ⟨A9, c9, rfl⟩ := Kd.R_slice T4.row
        have HT4 := yM T4
        have HS4r := yM (((TS.refl wr (.slice A1 n1 c1)).fr : TS wr wr.drew (.slice A1 n1 c1) (.slice A1 n1 c1)).trans S4)
        have HS4 := yM (HS2.out.trans HS4r.out)
        have HX4 := yM (HS4r.out.box HT2.out.row HX2.out)
        clear T4 S4 HT2 HS2 HX2 HM2 HS4r hHeld
        go_upto_region 12 with (at_builtin; refine wp_byte (w0 := w0) rfl _ _ rfl (.slice A9 l2.length c9) l2 58 (by rfl) HT4.out (by first | rfl | simp [Act.eval]) p9 ?_; intro A2 n2 c2 w6 T6 S6; have HT2 := yM T6; have HS2 := yM (HS4.out.trans S6); have HX2 := yM (S6.box HT4.out.row HX4.out); clear T6 S6 HT4 HS4 HX4 z0 z1 z2 z3 z4 z5 zf zl)
        clear x0 x1 x2 x3 x4 x5 s1 s2 s3
        obtain ⟨z0, z1, z2, z3, z4, z5, zf, zl⟩ := c6 HX2.out
        have HM2 := yM (M_at HM.out HT.out.bel HT2.out.bel)
        have g5' := (open5 HM2.out).2
        obtain ⟨gg, cc, ccs, es, hcm, hcc⟩ := child g5' i HIL.out
        obtain ⟨hA5, hc5⟩ : A5 = some ⟨gg, 0, none⟩ ∧ c5 = cc := by injection es with e1 e2 e3; exact ⟨e1, e3⟩
        obtain ⟨m, hm⟩ : ∃ m, m = n.f5.getD i z67 := ⟨_, rfl⟩
        have hlc := HLC.out
        rw [← hm] at hcm hlc
        have HLC2 := yM hlc
        clear hm hlc HLC
        obtain ⟨v4, v5, rfl, g4', g5''⟩ := k67_openM hcm
        obtain ⟨A6, c6_, rfl⟩ := Kd.R_slice g4'
        obtain ⟨A7, c7, rfl⟩ := Kd.R_slice g5''
        obtain ⟨y0, y1, y2, y3, y4, y5⟩ := ccells hcc
        have G5M := yM g5'
        have HCM := yM hcm
        clear hcc g4' g5'' es hcm g5'
        rw [hA5, hc5] at z5
        clear hA5 hc5
        go_wp2_with fail
        refine (ih k1 (by omega) _ s _ lc HLC2.out w0 _ _ _ HCM.out HT2.out).mono ?_
        rintro e w5 ⟨u5, rfl, T5, S5⟩
        obtain ⟨A8, c8, rfl⟩ := Kd.R_slice T5.row
        have HT5 := yM T5
        have HS5 := yM (HS2.out.trans S5)
        have HX5 := yM (S5.box HT2.out.row HX2.out)
        have hml := R67_len G5M.out
        have e7 : wrap64 ((i : Int) + 1) = (i : Int) + 1 := by unfold wrap64; omega
        clear hml
        clear T5 S5
        go_wp2
        go_roundg k1
        case measure => omega
        case rel => exact ⟨i + 1, lc, _, _, _, rfl, by simp [e7], ⟨HRR.out, by omega⟩, HT5, HS5, HX5⟩
       ·rw [if_neg h4] at hlb; cases hlb
      ·have hla := HLA.out
       rw [if_neg h0] at hla
       obtain ⟨p6, rfl⟩ := app1_some hla
       have b6 : decide ((i : Int) > 0) = true := decide_eq_true (by omega)
       have b6' : decide (0 < i) = true := decide_eq_true (by omega)
       have b6'' : 0 < i := by omega
       clear h0 hla
       go_upto_if 45 with (at_builtin; refine wp_byte (w0 := w0) rfl _ _ rfl (.slice A1 n1 c1) l' 44 (by rfl) HT2.out (by first | rfl | simp [Act.eval]) p6 ?_; intro A2 n2 c2 w3 T3 S3; have HT3 := yM T3; have HS3 := yM (HS2.out.trans S3); have HX3 := yM (S3.box HT2.out.row HX2.out); clear T3 S3 HT2 HS2 HX2; obtain ⟨A1, rfl⟩ : ∃ A, A = A2 := ⟨_, rfl⟩; obtain ⟨n1, rfl⟩ : ∃ A, A = n2 := ⟨_, rfl⟩; obtain ⟨c1, rfl⟩ : ∃ A, A = c2 := ⟨_, rfl⟩; have HT2 := HT3; have HS2 := HS3; have HX2 := HX3; clear HT3 HS3 HX3 z0 z1 z2 z3 z4 z5 zf zl; obtain ⟨z0, z1, z2, z3, z4, z5, zf, zl⟩ := c6 HX2.out)
       have hlb := HLB.out
       rw [if_pos HK.out] at hlb
       by_cases h4 : i < n.f4.length
       ·rw [if_pos h4] at hlb
        obtain ⟨x, hx4, hlb⟩ := yO hlb
        obtain ⟨l2, hl2, hlb⟩ := yO hlb
        obtain ⟨p9, rfl⟩ := app1_some hlb
        obtain ⟨nm, hnm⟩ : ∃ m, m = n.f4.getD i z67 := ⟨_, rfl⟩
        rw [← hnm] at hx4
        obtain ⟨t1, t2, t3, rfl⟩ := cutAt_some hx4
        have HTK := yM hl2
        have HM2 := yM (M_at HM.out HT.out.bel HT2.out.bel)
        obtain ⟨gn, cn, ccs, es, hcm, hcc⟩ := child (open5 HM2.out).1 i h4
        rw [← hnm] at hcm
        obtain ⟨hA4, hc4⟩ : A4 = some ⟨gn, 0, none⟩ ∧ c4 = cn := by injection es with e1 e2 e3; exact ⟨e1, e3⟩
        obtain ⟨v4, v5, rfl, _, _⟩ := k67_openM hcm
        obtain ⟨x0, x1, x2, x3, x4, x5⟩ := ccells hcc
        have s1 := eq_true t1
        have s2 := eq_true t2
        have s3 := eq_true t3
        have h4b : decide (i < n.f4.length) = true := decide_eq_true h4
        rw [hA4, hc4] at z4
        clear hA4 hc4 hcc es hcm hx4 hl2 hlb t1 t2 t3 hnm HLA
        go_wp2
        refine start_ (n := 17) (S := fun w' => w'.cell? ⟨w.heap.size, 4, none⟩ = some (.slice (some ⟨gn, 0, none⟩) n.f4.length cn) ∧ w'.cell? ⟨gn, i * 6 + 1, none⟩ = some (.int .i64 nm.f1) ∧ w'.cell? ⟨gn, i * 6 + 2, none⟩ = some (.int .i64 nm.f2)) (ds := [15]) #[false, false, false, false, false, false, false, false, false, false, false, false, false, false, false, false, false] (by kernel_rfl) rfl rfl ⟨(by simpa using z4), (by simpa using x1), (by simpa using x2)⟩ (fun hHeld => ?_)
        refine pure_ (i := 0) (N := some 46) (v := ?_) (a' := ?_) #[true, false, false, false, false, false, false, false, false, false, false, false, false, false, false, false, false] rfl rfl (by kernel_rfl) (fun _ _ _ h => h) (Or.inl ⟨by rfl, ?_⟩) ?_ ?_
        rotate_left
        ·intro w'
         go_simp
         with_reducible rfl
        rotate_left
        ·simp only [Act.put, yX, yY, yZ, i64_w, i32_w]
         rfl
        refine pure_ (i := 1) (N := some 47) (v := ?_) (a' := ?_) #[true, true, false, false, false, false, false, false, false, false, false, false, false, false, false, false, false] rfl rfl (by kernel_rfl) (fun _ _ _ h => h) (Or.inl ⟨by rfl, ?_⟩) ?_ ?_
        rotate_left
        ·intro w'
         go_simp
         with_reducible rfl
        rotate_left
        ·simp only [Act.put, yX, yY, yZ, i64_w, i32_w]
         rfl
        refine pure_ (i := 2) (N := some 48) (v := ?_) (a' := ?_) #[true, true, true, false, false, false, false, false, false, false, false, false, false, false, false, false, false] rfl rfl (by kernel_rfl) (fun _ _ _ h => h) (Or.inl ⟨by rfl, ?_⟩) ?_ ?_
        rotate_left
        ·intro w'
         go_simp
         with_reducible rfl
        rotate_left
        ·simp only [Act.put, yX, yY, yZ, i64_w, i32_w]
         rfl
        refine pure_ (i := 4) (N := some 50) (v := ?_) (a' := ?_) #[true, true, true, false, true, false, false, false, false, false, false, false, false, false, false, false, false] rfl rfl (by kernel_rfl) (fun _ _ _ h => h) (Or.inl ⟨by rfl, ?_⟩) ?_ ?_
        rotate_left
        ·intro w'
         go_simp
         with_reducible rfl
        rotate_left
        ·simp only [Act.put, yX, yY, yZ, i64_w, i32_w]
         rfl
        refine pure_ (i := 8) (N := some 54) (v := ?_) (a' := ?_) #[true, true, true, false, true, false, false, false, true, false, false, false, false, false, false, false, false] rfl rfl (by kernel_rfl) (fun _ _ _ h => h) (Or.inl ⟨by rfl, ?_⟩) ?_ ?_
        rotate_left
        ·intro w'
         go_simp
         with_reducible rfl
        rotate_left
        ·simp only [Act.put, yX, yY, yZ, i64_w, i32_w]
         rfl
        refine pure_ (i := 10) (N := some 56) (v := ?_) (a' := ?_) #[true, true, true, false, true, false, false, false, true, false, true, false, false, false, false, false, false] rfl rfl (by kernel_rfl) (fun _ _ _ h => h) (Or.inl ⟨by rfl, ?_⟩) ?_ ?_
        rotate_left
        ·intro w'
         go_simp
         with_reducible rfl
        rotate_left
        ·simp only [Act.put, yX, yY, yZ, i64_w, i32_w]
         rfl
        refine take_ (i := 3) (N := some 49) (v := ?_) (a' := ?_) #[true, true, true, true, true, false, false, false, true, false, true, false, false, false, false, false, false] rfl rfl (by kernel_rfl) (fun _ _ _ h => h) (Or.inl ⟨by rfl, ?_⟩) hHeld ?_ ?_
        rotate_left
        ·rintro w' ⟨s0, s1, s2⟩
         go_simp
         with_reducible rfl
        rotate_left
        ·simp only [Act.put, yX, yY, yZ, i64_w, i32_w]
         rfl
        refine pure_ (i := 5) (N := some 51) (v := ?_) (a' := ?_) #[true, true, true, true, true, true, false, false, true, false, true, false, false, false, false, false, false] rfl rfl (by kernel_rfl) (fun _ _ _ h => h) (Or.inl ⟨by rfl, ?_⟩) ?_ ?_
        rotate_left
        ·intro w'
         go_simp
         with_reducible rfl
        rotate_left
        ·simp only [Act.put, yX, yY, yZ, i64_w, i32_w]
         rfl
        refine pure_ (i := 6) (N := some 52) (v := ?_) (a' := ?_) #[true, true, true, true, true, true, true, false, true, false, true, false, false, false, false, false, false] rfl rfl (by kernel_rfl) (fun _ _ _ h => h) (Or.inl ⟨by rfl, ?_⟩) ?_ ?_
        rotate_left
        ·intro w'
         go_simp
         with_reducible rfl
        rotate_left
        ·simp only [Act.put, yX, yY, yZ, i64_w, i32_w]
         rfl
        refine take_ (i := 7) (N := some 53) (v := ?_) (a' := ?_) #[true, true, true, true, true, true, true, true, true, false, true, false, false, false, false, false, false] rfl rfl (by kernel_rfl) (fun _ _ _ h => h) (Or.inl ⟨by rfl, ?_⟩) hHeld ?_ ?_
        rotate_left
        ·rintro w' ⟨s0, s1, s2⟩
         go_simp
         with_reducible rfl
        rotate_left
        ·simp only [Act.put, yX, yY, yZ, i64_w, i32_w]
         rfl
        refine take_ (i := 9) (N := some 55) (v := ?_) (a' := ?_) #[true, true, true, true, true, true, true, true, true, true, true, false, false, false, false, false, false] rfl rfl (by kernel_rfl) (fun _ _ _ h => h) (Or.inl ⟨by rfl, ?_⟩) hHeld ?_ ?_
        rotate_left
        ·rintro w' ⟨s0, s1, s2⟩
         go_simp
         with_reducible rfl
        rotate_left
        ·simp only [Act.put, yX, yY, yZ, i64_w, i32_w]
         rfl
        refine pure_ (i := 11) (N := some 57) (v := ?_) (a' := ?_) #[true, true, true, true, true, true, true, true, true, true, true, true, false, false, false, false, false] rfl rfl (by kernel_rfl) (fun _ _ _ h => h) (Or.inl ⟨by rfl, ?_⟩) ?_ ?_
        rotate_left
        ·intro w'
         go_simp
         with_reducible rfl
        rotate_left
        ·simp only [Act.put, yX, yY, yZ, i64_w, i32_w]
         rfl
        refine pure_ (i := 12) (N := some 58) (v := ?_) (a' := ?_) #[true, true, true, true, true, true, true, true, true, true, true, true, true, false, false, false, false] rfl rfl (by kernel_rfl) (fun _ _ _ h => h) (Or.inl ⟨by rfl, ?_⟩) ?_ ?_
        rotate_left
        ·intro w'
         go_simp
         with_reducible rfl
        rotate_left
        ·simp only [Act.put, yX, yY, yZ, i64_w, i32_w]
         rfl
        refine take_ (i := 13) (N := some 59) (v := ?_) (a' := ?_) #[true, true, true, true, true, true, true, true, true, true, true, true, true, true, false, false, false] rfl rfl (by kernel_rfl) (fun _ _ _ h => h) (Or.inl ⟨by rfl, ?_⟩) hHeld ?_ ?_
        rotate_left
        ·rintro w' ⟨s0, s1, s2⟩
         go_simp
         with_reducible rfl
        rotate_left
        ·simp only [Act.put, yX, yY, yZ, i64_w, i32_w]
         rfl
        refine pure_ (i := 14) (N := some 60) (v := ?_) (a' := ?_) #[true, true, true, true, true, true, true, true, true, true, true, true, true, true, true, false, false] rfl rfl (by kernel_rfl) (fun _ _ _ h => h) (Or.inl ⟨by rfl, ?_⟩) ?_ ?_
        rotate_left
        ·intro w'
         go_simp
         with_reducible rfl
        rotate_left
        ·simp only [Act.put, yX, yY, yZ, i64_w, i32_w]
         rfl
        refine last_ (i := 15) (N := some 61) #[true, true, true, true, true, true, true, true, true, true, true, true, true, true, true, true, false] rfl rfl (by kernel_rfl) (by decide) (fun K hK => ?_)
        refine goes_ Tryd.func35 (by kernel_rfl) rfl #[.slice A1 n1 c1, .string (s.extract nm.f1.toNat nm.f2.toNat)] (by rfl) rfl rfl (by simp only [List.map_toArray, List.map_cons, List.map_nil]; rfl) ?_
        with_reducible refine (token_T k1 _ _ _ l2 w0 _ HT2.out.fr HTK.out).mono ?_
        rintro e w4 ⟨u4, rfl, T4, S4⟩
        refine ⟨_, rfl, ?_⟩
        refine hK.out _ _ ?_
        clear hK K
        refine norm_ (a' := ?_) ?_ ?_
        rotate_left
        ·show Act.put _ (some 61) _ = _
         simp only [Act.put, yX, yY, yZ, i64_w, i32_w]
         rfl
        refine pure_ (i := 16) (N := some 0) (v := ?_) (a' := ?_) #[true, true, true, true, true, true, true, true, true, true, true, true, true, true, true, true, true] rfl rfl (by kernel_rfl) (fun _ _ _ h => h) (Or.inl ⟨by rfl, ?_⟩) ?_ ?_
        rotate_left
        ·intro w'
         go_simp
         with_reducible rfl
        rotate_left
        ·simp only [Act.put, yX, yY, yZ, i64_w, i32_w]
         rfl
        refine done_ (by kernel_rfl) ?_
        obtain ⟨A9, c9, rfl⟩ := Kd.R_slice T4.row
        have HT4 := yM T4
        have HS4r := yM (((TS.refl w3 (.slice A1 n1 c1)).fr : TS w3 w3.drew (.slice A1 n1 c1) (.slice A1 n1 c1)).trans S4)
        have HS4 := yM (HS2.out.trans HS4r.out)
        have HX4 := yM (HS4r.out.box HT2.out.row HX2.out)
        clear T4 S4 HT2 HS2 HX2 HM2 HS4r hHeld
        go_upto_region 12 with (at_builtin; refine wp_byte (w0 := w0) rfl _ _ rfl (.slice A9 l2.length c9) l2 58 (by rfl) HT4.out (by first | rfl | simp [Act.eval]) p9 ?_; intro A2 n2 c2 w6 T6 S6; have HT2 := yM T6; have HS2 := yM (HS4.out.trans S6); have HX2 := yM (S6.box HT4.out.row HX4.out); clear T6 S6 HT4 HS4 HX4 z0 z1 z2 z3 z4 z5 zf zl)
        clear x0 x1 x2 x3 x4 x5 s1 s2 s3
        obtain ⟨z0, z1, z2, z3, z4, z5, zf, zl⟩ := c6 HX2.out
        have HM2 := yM (M_at HM.out HT.out.bel HT2.out.bel)
        have g5' := (open5 HM2.out).2
        obtain ⟨gg, cc, ccs, es, hcm, hcc⟩ := child g5' i HIL.out
        obtain ⟨hA5, hc5⟩ : A5 = some ⟨gg, 0, none⟩ ∧ c5 = cc := by injection es with e1 e2 e3; exact ⟨e1, e3⟩
        obtain ⟨m, hm⟩ : ∃ m, m = n.f5.getD i z67 := ⟨_, rfl⟩
        have hlc := HLC.out
        rw [← hm] at hcm hlc
        have HLC2 := yM hlc
        clear hm hlc HLC
        obtain ⟨v4, v5, rfl, g4', g5''⟩ := k67_openM hcm
        obtain ⟨A6, c6_, rfl⟩ := Kd.R_slice g4'
        obtain ⟨A7, c7, rfl⟩ := Kd.R_slice g5''
        obtain ⟨y0, y1, y2, y3, y4, y5⟩ := ccells hcc
        have G5M := yM g5'
        have HCM := yM hcm
        clear hcc g4' g5'' es hcm g5'
        rw [hA5, hc5] at z5
        clear hA5 hc5
        go_wp2_with fail
        refine (ih k1 (by omega) _ s _ lc HLC2.out w0 _ _ _ HCM.out HT2.out).mono ?_
        rintro e w5 ⟨u5, rfl, T5, S5⟩
        obtain ⟨A8, c8, rfl⟩ := Kd.R_slice T5.row
        have HT5 := yM T5
        have HS5 := yM (HS2.out.trans S5)
        have HX5 := yM (S5.box HT2.out.row HX2.out)
        have hml := R67_len G5M.out
        have e7 : wrap64 ((i : Int) + 1) = (i : Int) + 1 := by unfold wrap64; omega
        clear hml
        clear T5 S5
        go_wp2
        go_roundg k1
        case measure => omega
        case rel => exact ⟨i + 1, lc, _, _, _, rfl, by simp [e7], ⟨HRR.out, by omega⟩, HT5, HS5, HX5⟩
       ·rw [if_neg h4] at hlb; cases hlb
     ·rw [if_neg hi] at hr
      obtain ⟨c, hc, hr⟩ := yO hr
      obtain ⟨d1, d2, rfl⟩ := byteAt_some hc
      obtain ⟨p6, rfl⟩ := app1_some hr
      have b5 : decide ((i : Int) < (n.f5.length : Int)) = false := decide_eq_false (by omega)
      have b5' : decide (i < n.f5.length) = false := decide_eq_false hi
      have b5'' : ¬ (i < n.f5.length) := hi
      have e1 := eq_true d1
      have e2 := eq_true d2
      have hx2 := bt_at s (wrap64 (n.f2 - 1))
      clear hc hr d1 d2 hi
      go_wp2_with (at_builtin; refine wp_byte (w0 := w0) rfl _ _ rfl (.slice A1 n1 c1) l' (bt s (wrap64 (n.f2 - 1))) (by rfl) HT2.out (by first | rfl | simp [Act.eval]) p6 ?_; intro A2 n2 c2 w3 T3 S3; have HT3 := yM T3; have HS3 := yM (HS2.out.trans S3); clear T3 S3)
      go_ret
      exact ⟨_, rfl, HT3.out, HS3.out⟩
  ·have b1 : (n.f0 != 1) = true := by simp [hk]
   have b2 : (n.f0 != 2) = false := by simp [hk]
   have b3 : (n.f0 == 1) = false := by simp [hk]
   have HK := yM hk
   clear hk
   go_enter Tryd.func19, Tryd.ntmps19
   go_wp2_with (at_builtin; refine wp_byte (w0 := w0) rfl _ _ rfl u l (bt s n.f1) rfl HT.out.fr (by first | rfl | simp [Act.eval]) p3 ?_; intro A1 n1 c1 w2 T2 S2; have HT2 := yM T2; have HS2 := yM (((TS.refl w u).fr : TS w (w.alloc (.cells #[.int .i64 n.f0, .int .i64 n.f1, .int .i64 n.f2, .string n.f3, .slice A4 n.f4.length c4, .slice A5 n.f5.length c5] 67)) u u).trans S2); have HX2 := yM (S2.box (HT.out.fr (w2 := w.alloc (.cells #[.int .i64 n.f0, .int .i64 n.f1, .int .i64 n.f2, .string n.f3, .slice A4 n.f4.length c4, .slice A5 n.f5.length c5] 67))).row HBX.out); clear T2 S2)
   go_loopg [0, 7] k (fun kq v0 v7 w' => ∃ (i : Nat) (l' : List Int) (A1 : Option Addr) (n1 c1 : Nat), v0 = .slice A1 n1 c1 ∧ v7 = .int .i64 (i : Int) ∧ Aside0 (tight.l kq l' s n i = some r ∧ kq ≤ k) ∧ Aside0 (TR w0 w' (.slice A1 n1 c1) l') ∧ Aside0 (TS w w' u (.slice A1 n1 c1)) ∧ Aside0 (w'.heap[w.heap.size]? = some (.cells #[.int .i64 n.f0, .int .i64 n.f1, .int .i64 n.f2, .string n.f3, .slice A4 n.f4.length c4, .slice A5 n.f5.length c5] 67 (0, 0))))
   case atStart => exact ⟨0, _, _, _, _, rfl, rfl, ⟨HH.out, Nat.le_refl _⟩, HT2, HS2, HX2⟩
   case round =>
    clear HT2 HS2 HX2 HH
    obtain ⟨i, l', A1, n1, c1, rfl, rfl, HR, HT2, HS2, HX2⟩ := hrel
    obtain ⟨hr, hkq⟩ := HR.out
    cases gk with
    | zero => simp [tight.l] at hr
    | succ k1 =>
     unfold tight.l at hr
     obtain ⟨z0, z1, z2, z3, z4, z5, zf, zl⟩ := c6 HX2.out
     by_cases hi : i < n.f5.length
     ·rw [if_pos hi] at hr
      obtain ⟨la, hla, hr⟩ := yO hr
      obtain ⟨lb, hlb, hr⟩ := yO hr
      obtain ⟨lc, hlc, hr⟩ := yO hr
      have b5 : decide ((i : Int) < (n.f5.length : Int)) = true := decide_eq_true (by omega)
      have b5' : decide (i < n.f5.length) = true := decide_eq_true hi
      have b5'' : i < n.f5.length := hi
      have HLA := yM hla
      have HLB := yM hlb
      have HLC := yM hlc
      have HRR := yM hr
      have HIL := yM hi
      clear hla hlb hlc hr hi HR
      by_cases h0 : i = 0
      ·have hla := HLA.out
       rw [if_pos h0] at hla
       obtain rfl := Option.some.inj hla
       have b6 : decide ((i : Int) > 0) = false := decide_eq_false (by omega)
       have b6' : decide (0 < i) = false := decide_eq_false (by omega)
       have b6'' : ¬ (0 < i) := by omega
       clear h0 hla
       go_upto_if 45 with fail
       have hlb := HLB.out
       rw [if_neg (by have := HK.out; omega)] at hlb
       obtain rfl := Option.some.inj hlb
       clear hlb
       have HM2 := yM (M_at HM.out HT.out.bel HT2.out.bel)
       have g5' := (open5 HM2.out).2
       obtain ⟨gg, cc, ccs, es, hcm, hcc⟩ := child g5' i HIL.out
       obtain ⟨hA5, hc5⟩ : A5 = some ⟨gg, 0, none⟩ ∧ c5 = cc := by injection es with e1 e2 e3; exact ⟨e1, e3⟩
       obtain ⟨m, hm⟩ : ∃ m, m = n.f5.getD i z67 := ⟨_, rfl⟩
       have hlc := HLC.out
       rw [← hm] at hcm hlc
       have HLC2 := yM hlc
       clear hm hlc HLC
       obtain ⟨v4, v5, rfl, g4', g5''⟩ := k67_openM hcm
       obtain ⟨A6, c6_, rfl⟩ := Kd.R_slice g4'
       obtain ⟨A7, c7, rfl⟩ := Kd.R_slice g5''
       obtain ⟨y0, y1, y2, y3, y4, y5⟩ := ccells hcc
       have G5M := yM g5'
       have HCM := yM hcm
       clear hcc g4' g5'' es hcm g5'
       rw [hA5, hc5] at z5
       clear hA5 hc5
       go_wp2_with fail
       refine (ih k1 (by omega) _ s _ lc HLC2.out w0 _ _ _ HCM.out HT2.out).mono ?_
       rintro e w5 ⟨u5, rfl, T5, S5⟩
       obtain ⟨A8, c8, rfl⟩ := Kd.R_slice T5.row
       have HT5 := yM T5
       have HS5 := yM (HS2.out.trans S5)
       have HX5 := yM (S5.box HT2.out.row HX2.out)
       have hml := R67_len G5M.out
       have e7 : wrap64 ((i : Int) + 1) = (i : Int) + 1 := by unfold wrap64; omega
       clear hml
       clear T5 S5
       go_wp2
       go_roundg k1
       case measure => omega
       case rel => exact ⟨i + 1, lc, _, _, _, rfl, by simp [e7], ⟨HRR.out, by omega⟩, HT5, HS5, HX5⟩
      ·have hla := HLA.out
       rw [if_neg h0] at hla
       obtain ⟨p6, rfl⟩ := app1_some hla
       have b6 : decide ((i : Int) > 0) = true := decide_eq_true (by omega)
       have b6' : decide (0 < i) = true := decide_eq_true (by omega)
       have b6'' : 0 < i := by omega
       clear h0 hla
       go_upto_if 45 with (at_builtin; refine wp_byte (w0 := w0) rfl _ _ rfl (.slice A1 n1 c1) l' 44 (by rfl) HT2.out (by first | rfl | simp [Act.eval]) p6 ?_; intro A2 n2 c2 w3 T3 S3; have HT3 := yM T3; have HS3 := yM (HS2.out.trans S3); have HX3 := yM (S3.box HT2.out.row HX2.out); clear T3 S3 HT2 HS2 HX2; obtain ⟨A1, rfl⟩ : ∃ A, A = A2 := ⟨_, rfl⟩; obtain ⟨n1, rfl⟩ : ∃ A, A = n2 := ⟨_, rfl⟩; obtain ⟨c1, rfl⟩ : ∃ A, A = c2 := ⟨_, rfl⟩; have HT2 := HT3; have HS2 := HS3; have HX2 := HX3; clear HT3 HS3 HX3 z0 z1 z2 z3 z4 z5 zf zl; obtain ⟨z0, z1, z2, z3, z4, z5, zf, zl⟩ := c6 HX2.out)
       have hlb := HLB.out
       rw [if_neg (by have := HK.out; omega)] at hlb
       obtain rfl := Option.some.inj hlb
       clear hlb
       have HM2 := yM (M_at HM.out HT.out.bel HT2.out.bel)
       have g5' := (open5 HM2.out).2
       obtain ⟨gg, cc, ccs, es, hcm, hcc⟩ := child g5' i HIL.out
       obtain ⟨hA5, hc5⟩ : A5 = some ⟨gg, 0, none⟩ ∧ c5 = cc := by injection es with e1 e2 e3; exact ⟨e1, e3⟩
       obtain ⟨m, hm⟩ : ∃ m, m = n.f5.getD i z67 := ⟨_, rfl⟩
       have hlc := HLC.out
       rw [← hm] at hcm hlc
       have HLC2 := yM hlc
       clear hm hlc HLC
       obtain ⟨v4, v5, rfl, g4', g5''⟩ := k67_openM hcm
       obtain ⟨A6, c6_, rfl⟩ := Kd.R_slice g4'
       obtain ⟨A7, c7, rfl⟩ := Kd.R_slice g5''
       obtain ⟨y0, y1, y2, y3, y4, y5⟩ := ccells hcc
       have G5M := yM g5'
       have HCM := yM hcm
       clear hcc g4' g5'' es hcm g5'
       rw [hA5, hc5] at z5
       clear hA5 hc5
       go_wp2_with fail
       refine (ih k1 (by omega) _ s _ lc HLC2.out w0 _ _ _ HCM.out HT2.out).mono ?_
       rintro e w5 ⟨u5, rfl, T5, S5⟩
       obtain ⟨A8, c8, rfl⟩ := Kd.R_slice T5.row
       have HT5 := yM T5
       have HS5 := yM (HS2.out.trans S5)
       have HX5 := yM (S5.box HT2.out.row HX2.out)
       have hml := R67_len G5M.out
       have e7 : wrap64 ((i : Int) + 1) = (i : Int) + 1 := by unfold wrap64; omega
       clear hml
       clear T5 S5
       go_wp2
       go_roundg k1
       case measure => omega
       case rel => exact ⟨i + 1, lc, _, _, _, rfl, by simp [e7], ⟨HRR.out, by omega⟩, HT5, HS5, HX5⟩
     ·rw [if_neg hi] at hr
      obtain ⟨c, hc, hr⟩ := yO hr
      obtain ⟨d1, d2, rfl⟩ := byteAt_some hc
      obtain ⟨p6, rfl⟩ := app1_some hr
      have b5 : decide ((i : Int) < (n.f5.length : Int)) = false := decide_eq_false (by omega)
      have b5' : decide (i < n.f5.length) = false := decide_eq_false hi
      have b5'' : ¬ (i < n.f5.length) := hi
      have e1 := eq_true d1
      have e2 := eq_true d2
      have hx2 := bt_at s (wrap64 (n.f2 - 1))
      clear hc hr d1 d2 hi
      go_wp2_with (at_builtin; refine wp_byte (w0 := w0) rfl _ _ rfl (.slice A1 n1 c1) l' (bt s (wrap64 (n.f2 - 1))) (by rfl) HT2.out (by first | rfl | simp [Act.eval]) p6 ?_; intro A2 n2 c2 w3 T3 S3; have HT3 := yM T3; have HS3 := yM (HS2.out.trans S3); clear T3 S3)
      go_ret
      exact ⟨_, rfl, HT3.out, HS3.out⟩
 ·rw [if_neg hk] at h
  obtain ⟨x, hx, h⟩ := yO h
  obtain ⟨p1, p2, p3, rfl⟩ := cutAt_some hx
  have q1 := eq_true p1
  have q2 := eq_true p2
  have q3 := eq_true p3
  have b1 : (n.f0 != 1) = true := bne_iff_ne.mpr (fun e => hk (Or.inl e))
  have b2 : (n.f0 != 2) = true := bne_iff_ne.mpr (fun e => hk (Or.inr e))
  have HH := yM h
  clear h hx hk p1 p2 p3
  go_enter Tryd.func19, Tryd.ntmps19
  go_wp2_with fail
  refine (token_T k u l _ r w0 _ HT.out.fr HH.out).mono ?_
  rintro e w2 ⟨u2, rfl, T2, S2⟩
  have HT2 := yM T2
  have HS2 := yM S2
  clear T2 S2
  go_wp2
  go_ret
  exact ⟨u2, rfl, HT2.out, ((TS.refl w u).fr).trans HS2.out⟩
theorem tight_all : ∀ k, TOK k := by
 intro k
 induction k using Nat.strongRecOn with
 | _ k ih =>
  cases k with
  | zero => intro l s n r h; simp [tight.f] at h
  | succ k => exact tight_calls k (fun j hj => ih j hj)
def fin (n : S67) (e p : Int) : S67 × Int × Int := if e = 0 then (n, 0, 0) else (z67, e, p)
def Read.f (k : Nat) (s : ByteArray) : Option (S67 × Int × Int) :=
 if (s.size : Int) > 67108864 then some (z67, 2, 0) else
  (U_Utf8.f k s).bind fun u =>
   if u ≥ 0 then some (z67, 125, u) else
    (T_value.f k s 0 0 0 0).bind fun v =>
     if v.2.2.2.2.2.2.2.2.1 = 0 then
      (T_next.f k v.2.2.2.2.2.2.1 v.2.2.2.2.2.2.2.1 v.2.2.2.2.2.2.2.2.1 v.2.2.2.2.2.2.2.2.2).bind fun b =>
       if b.1 ≠ 0 ∨ b.2.2.1 < (s.size : Int) then (T_fail.f b.2.1 b.2.2.1 b.2.2.2.1 b.2.2.2.2 120 b.2.2.1).bind fun q => some (fin ⟨v.1, v.2.1, v.2.2.1, v.2.2.2.1, v.2.2.2.2.1, v.2.2.2.2.2.1⟩ q.2.2.1 q.2.2.2)
       else some (fin ⟨v.1, v.2.1, v.2.2.1, v.2.2.2.1, v.2.2.2.2.1, v.2.2.2.2.2.1⟩ b.2.2.2.1 b.2.2.2.2)
     else some (z67, v.2.2.2.2.2.2.2.2.1, v.2.2.2.2.2.2.2.2.2)
def RPost (w : World) (r : S67 × Int × Int) (e : Ending) (w' : World) : Prop :=
 ∃ cs, e = .returned (.tuple #[.agg cs.toArray, .int .i64 r.2.1, .int .i64 r.2.2]) ∧ k67.M w' 0 (fun k => k < w'.heap.size) r.1 cs ∧ Below w.heap.size w w'
theorem RPost.fin_no {w : World} {n : S67} {e p : Int} {en : Ending} {w' : World} (g : e ≠ 0) (h : RPost w (z67, e, p) en w') : RPost w (fin n e p) en w' := by rw [show fin n e p = (z67, e, p) from if_neg g]; exact h
theorem RPost.fin_yes {w : World} {n : S67} {e p : Int} {en : Ending} {w' : World} (g : e = 0) (h : RPost w (n, 0, 0) en w') : RPost w (fin n e p) en w' := by rw [show fin n e p = (n, 0, 0) from if_pos g]; exact h
structure RS (w w1 w3 : World) (s : ByteArray) (a e p : Int) (nb : Nat) (n : S67) (cs : List Value) : Prop where
 hi : IsS79 w1 w3 (w.heap.size + 1) s a e p
 x : w3.heap[w.heap.size]? = some (.cells #[.int .i64 0, .int .i64 0, .int .i64 0, .string ⟨#[]⟩, .slice none 0 0, .slice none 0 0] 67 (0, 0))
 bx : w3.heap[nb]? = some (.cells cs.toArray 67 (0, 0))
 m : k67.M w3 0 (fun k => w.heap.size + 1 < k ∧ k < w3.heap.size) n cs
 b : Below w.heap.size w w3
 b1 : Below w1.heap.size w1 w3
 h1 : w.heap.size + 1 < nb
 s1 : w1.heap.size = w.heap.size + 1
theorem RS.alloc {w w1 w2 : World} {s : ByteArray} {a e p : Int} {n : S67} {cs : List Value} (hi : IsS79 w1 w2 (w.heap.size + 1) s a e p) (hb : Below w1.heap.size w1 w2) (hx : w1.heap[w.heap.size]? = some (.cells #[.int .i64 0, .int .i64 0, .int .i64 0, .string ⟨#[]⟩, .slice none 0 0, .slice none 0 0] 67 (0, 0))) (hb1 : Below w.heap.size w w1) (hs : w1.heap.size = w.heap.size + 1) (hm : k67.M w2 0 (fun k => w.heap.size + 1 < k ∧ k < w2.heap.size) n cs) : RS w w1 (w2.alloc (.cells cs.toArray 67)) s a e p w2.heap.size n cs := by
 have hl := hi.lt
 have hbb : Below w.heap.size w w2 := ⟨hb.os.trans hb1.os, hb.tape.trans hb1.tape, hb.output.trans hb1.output, Nat.le_trans hb1.size hb.size, fun i h => (hb.block i (by omega)).trans (hb1.block i h)⟩
 have hf : Below w2.heap.size w2 (w2.alloc (.cells cs.toArray 67)) := Fr.out inferInstance
 refine ⟨hi.alloc _, bx_al ((hb.block _ (by omega)).trans hx) _, blk_new w2 _, k67.M_mono (fun k hk => ⟨hk.1, Nat.lt_of_lt_of_le hk.2 hf.size⟩) (k67.M_move (fun k hk => hf.block k hk.2) hm), ?_, ?_, by omega, hs⟩
 ·exact ⟨hf.os.trans hbb.os, hf.tape.trans hbb.tape, hf.output.trans hbb.output, Nat.le_trans hbb.size hf.size, fun i h => (hf.block i (Nat.lt_of_lt_of_le h hbb.size)).trans (hbb.block i h)⟩
 ·exact ⟨hf.os.trans hb.os, hf.tape.trans hb.tape, hf.output.trans hb.output, Nat.le_trans hb.size hf.size, fun i h => (hf.block i (Nat.lt_of_lt_of_le h hb.size)).trans (hb.block i h)⟩
theorem RS.step {w w1 w3 w5 : World} {s s' : ByteArray} {a e p a' e' p' : Int} {nb : Nat} {n : S67} {cs : List Value} (h : RS w w1 w3 s a e p nb n cs) (hi : IsS79 w1 w5 (w.heap.size + 1) s' a' e' p') (hb : Below w1.heap.size w1 w5) (hk : KeepBut w3 w5 (w.heap.size + 1) none) : RS w w1 w5 s' a' e' p' nb n cs := by
 have hx := (Array.getElem?_eq_some_iff.1 h.x).1
 have hn := (Array.getElem?_eq_some_iff.1 h.bx).1
 have h1 := h.h1
 have hs := h.s1
 have hm : ∀ k, w.heap.size + 1 < k ∧ k < w3.heap.size → w5.heap[k]? = w3.heap[k]? := fun k hk' => hk.2 k hk'.2 (by omega) (by simp)
 refine ⟨hi, (hk.2 _ hx (by omega) (by simp)).trans h.x, (hk.2 _ hn (by omega) (by simp)).trans h.bx, k67.M_mono (fun k hk' => ⟨hk'.1, Nat.lt_of_lt_of_le hk'.2 hk.1⟩) (k67.M_move (fun k hk' => hm k hk') h.m), ?_, hb, h1, hs⟩
 have hb1 : Below w.heap.size w w3 := h.b
 have hbb := h.b1
 exact ⟨(hb.os.trans hbb.os.symm).trans hb1.os, (hb.tape.trans hbb.tape.symm).trans hb1.tape, (hb.output.trans hbb.output.symm).trans hb1.output, Nat.le_trans hb1.size hk.1, fun i hi' => (hk.2 i (Nat.lt_of_lt_of_le hi' hb1.size) (by omega) (by simp)).trans (hb1.block i hi')⟩
theorem RS.end_ {w w1 w3 : World} {s : ByteArray} {a e p : Int} {nb : Nat} {n : S67} {cs : List Value} (h : RS w w1 w3 s a e p nb n cs) (x0 x1 x2 x3 x4 x5 : Value) : k67.M ((((((w3.setCell ⟨w.heap.size, 0, none⟩ x0).setCell ⟨w.heap.size, 1, none⟩ x1).setCell ⟨w.heap.size, 2, none⟩ x2).setCell ⟨w.heap.size, 3, none⟩ x3).setCell ⟨w.heap.size, 4, none⟩ x4).setCell ⟨w.heap.size, 5, none⟩ x5) 0 (fun k => k < ((((((w3.setCell ⟨w.heap.size, 0, none⟩ x0).setCell ⟨w.heap.size, 1, none⟩ x1).setCell ⟨w.heap.size, 2, none⟩ x2).setCell ⟨w.heap.size, 3, none⟩ x3).setCell ⟨w.heap.size, 4, none⟩ x4).setCell ⟨w.heap.size, 5, none⟩ x5).heap.size) n cs := by
 have hf := fill6 (g := w.heap.size) w3 x0 x1 x2 x3 x4 x5
 exact k67.M_mono (fun k hk => Nat.lt_of_lt_of_le hk.2 hf.size) (k67.M_move (fun k hk => hf.block k hk.2 (fun e => by have : k = w.heap.size := e; omega)) h.m)
theorem res3 {fn : Func} (h : fn.results = #[.cell 2 67, .tmp 3, .tmp 4]) (tmps : Array Value) (w : World) (g : Nat) (cs : Array Value) (a b : Value) (hg : w.heap[g]? = some (.cells cs 67 (0, 0))) (hp : tmps.getD 2 undef = .pointer (some ⟨g, 0, none⟩)) (ha : tmps.getD 3 undef = a) (hb : tmps.getD 4 undef = b) (hs : cs.size = 6) :
  (results fn tmps).run Tryd.prog w = .ok (.tuple #[.agg cs, a, b]) w := by
 have hp' : tmps[2]?.getD undef = .pointer (some ⟨g, 0, none⟩) := by simpa using hp
 have ha' : tmps[3]?.getD undef = a := by simpa using ha
 have hb' : tmps[4]?.getD undef = b := by simpa using hb
 have hl := run_loadVar_row w g 67 67 cs (0, 0) _ hg Tryd.underlying67 rfl (by rw [info67w, hs])
 simp [results, h, hp', ha', hb', asAddr, hl]
theorem bel_fill {w w2 : World} (h : Below w.heap.size w w2) (a b c d e f : Value) : Below w.heap.size w ((((((w2.setCell ⟨w.heap.size, 0, none⟩ a).setCell ⟨w.heap.size, 1, none⟩ b).setCell ⟨w.heap.size, 2, none⟩ c).setCell ⟨w.heap.size, 3, none⟩ d).setCell ⟨w.heap.size, 4, none⟩ e).setCell ⟨w.heap.size, 5, none⟩ f) := by
 have hf := fill6 (g := w.heap.size) w2 a b c d e f
 exact ⟨hf.os.trans h.os, hf.tape.trans h.tape, hf.output.trans h.output, Nat.le_trans h.size hf.size, fun i hi => (hf.block i (Nat.lt_of_lt_of_le hi h.size) (fun e => by have : i = w.heap.size := e; omega)).trans (h.block i hi)⟩
theorem far1 {w : World} {g h i j : Nat} {x : Value} (hne : h ≠ g) (hc : w.cell? ⟨h, i, none⟩ = some x) (a : Value) : (w.setCell ⟨g, j, none⟩ a).cell? ⟨h, i, none⟩ = some x :=
 (World.cell?_setCell_other w ⟨g, j, none⟩ ⟨h, i, none⟩ a (fun e => by injection e with e1 e2; exact hne (by first | exact e1 | exact e1.symm))).trans hc
theorem far6 {w : World} {g h i : Nat} {x : Value} (hne : h ≠ g) (hc : w.cell? ⟨h, i, none⟩ = some x) (a b c d e f : Value) :
  ((((((w.setCell ⟨g, 0, none⟩ a).setCell ⟨g, 1, none⟩ b).setCell ⟨g, 2, none⟩ c).setCell ⟨g, 3, none⟩ d).setCell ⟨g, 4, none⟩ e).setCell ⟨g, 5, none⟩ f).cell? ⟨h, i, none⟩ = some x :=
 far1 hne (far1 hne (far1 hne (far1 hne (far1 hne (far1 hne hc a) b) c) d) e) f
theorem heap_drew (w : World) {g : Nat} : w.drew.heap[g]? = w.heap[g]? := rfl
theorem below_drew {w w2 : World} (h : Below w.heap.size w w2) : Below w.heap.size w w2.drew := Below.drew h
theorem cell_drew (w : World) (a : Addr) : w.drew.cell? a = w.cell? a := by simp
theorem far6d {w : World} {g h i : Nat} {x : Value} (hne : h ≠ g) (hc : w.cell? ⟨h, i, none⟩ = some x) (a b c d e f : Value) :
  ((((((w.setCell ⟨g, 0, none⟩ a).setCell ⟨g, 1, none⟩ b).setCell ⟨g, 2, none⟩ c).setCell ⟨g, 3, none⟩ d).setCell ⟨g, 4, none⟩ e).setCell ⟨g, 5, none⟩ f).drew.cell? ⟨h, i, none⟩ = some x :=
 (cell_drew _ _).trans (far6 hne hc a b c d e f)
theorem M_z67 (w : World) (ok : Nat → Prop) : k67.M w 0 ok z67 [.int .i64 0, .int .i64 0, .int .i64 0, .string ⟨#[]⟩, .slice none 0 0, .slice none 0 0] := k67_mkM w 0 ok z67 (Kd.R_nil _ _ _ _ _) (Kd.R_nil _ _ _ _ _)
theorem M_node {w : World} {G b4 b5 : Nat} {ok4 ok5 : Nat → Prop} {v4 v5 : Value} {x : S67} (h4 : Kd.R k67 67 w b4 ok4 v4 x.f4) (h5 : Kd.R k67 67 w b5 ok5 v5 x.f5) (g4 : G < b4) (g5 : G < b5) : k67.M w 0 (fun k => G < k ∧ k < w.heap.size) x [.int .i64 x.f0, .int .i64 x.f1, .int .i64 x.f2, .string x.f3, v4, v5] :=
 k67_mkM w 0 _ x (Kd.R_lower (Kd.R_mono (Kd.R_bound h4) (fun k hk => ⟨Nat.lt_of_lt_of_le g4 hk.2.1, hk.2.2.1⟩)) (Nat.zero_le _)) (Kd.R_lower (Kd.R_mono (Kd.R_bound h5) (fun k hk => ⟨Nat.lt_of_lt_of_le g5 hk.2.1, hk.2.2.1⟩)) (Nat.zero_le _))
set_option maxHeartbeats 8000000 in
set_option maxRecDepth 100000 in
theorem dread_calls (k : Nat) (s : ByteArray) (r : S67 × Int × Int) (h : Read.f k s = some r) (w : World) : Calls Tryd.prog 18 #[.string s] w (RPost w r) := by
 unfold Read.f at h
 by_cases g1 : (s.size : Int) > 67108864
 ·rw [if_pos g1] at h
  obtain rfl := Option.some.inj h
  have b1 : decide ((s.size : Int) > 67108864) = true := decide_eq_true g1
  have b1' : decide (67108864 < s.size) = true := decide_eq_true (by omega)
  have b1'' : 67108864 < s.size := by omega
  clear g1 h
  go_enter Tryd.func18, Tryd.ntmps18
  go_wp2
  refine bodyPost_ret (v := .tuple #[.agg #[.int .i64 0, .int .i64 0, .int .i64 0, .string ⟨#[]⟩, .slice none 0 0, .slice none 0 0], .int .i64 2, .int .i64 0]) (by simp [results, Tryd.results18, go_sem]) rfl ?_
  exact ⟨_, rfl, M_z67 _ _, by first | exact bel | exact bel_fill (show Below w.heap.size w (w.alloc (.cells #[.int .i64 0, .int .i64 0, .int .i64 0, .string ⟨#[]⟩, .slice none 0 0, .slice none 0 0] 67)) from bel) _ _ _ _ _ _⟩
 ·rw [if_neg g1] at h
  have b1 : decide ((s.size : Int) > 67108864) = false := decide_eq_false g1
  have b1' : decide (67108864 < s.size) = false := decide_eq_false (by omega)
  have b1'' : ¬ (67108864 < s.size) := by omega
  replace h := yO h
  obtain ⟨u, hu, h⟩ := h
  have HU := yM (U_Utf8.calls k s u)
  have HU2 := yM hu
  clear g1 hu
  by_cases g2 : u ≥ 0
  ·rw [if_pos g2] at h
   obtain rfl := Option.some.inj h
   have b2 : decide (u ≥ 0) = true := decide_eq_true g2
   clear g2 h
   go_enter Tryd.func18, Tryd.ntmps18
   go_wp2_with (go_at_call 31; refine (HU.out _ HU2.out).mono ?_; rintro e w2 ⟨rfl, hd⟩; obtain ⟨n2, hd⟩ := hd.out; subst hd)
   refine bodyPost_ret (v := .tuple #[.agg #[.int .i64 0, .int .i64 0, .int .i64 0, .string ⟨#[]⟩, .slice none 0 0, .slice none 0 0], .int .i64 125, .int .i64 u]) (by simp [results, Tryd.results18, go_sem]) rfl ?_
   exact ⟨_, rfl, M_z67 _ _, bel_fill (show Below w.heap.size w ((w.alloc (.cells #[.int .i64 0, .int .i64 0, .int .i64 0, .string ⟨#[]⟩, .slice none 0 0, .slice none 0 0] 67)).drewN n2) from bel) _ _ _ _ _ _⟩
  ·rw [if_neg g2] at h
   have b2 : decide (u ≥ 0) = false := decide_eq_false g2
   replace h := yO h
   obtain ⟨⟨r1, r2, r3, r4, r5, r6, r7, r8, r9, r10⟩, hv, h⟩ := h
   dsimp only at h
   have HV := yM hv
   have HH := yM h
   clear g2 h hv
   go_enter Tryd.func18, Tryd.ntmps18
   go_upto_region 7 with (go_at_call 31; refine (HU.out _ HU2.out).mono ?_; rintro e w2 ⟨rfl, hd⟩; obtain ⟨n2, hd⟩ := hd.out; subst hd)
   obtain ⟨w1, hw1⟩ : ∃ w1, w1 = ((w.alloc (.cells #[.int .i64 0, .int .i64 0, .int .i64 0, .string ⟨#[]⟩, .slice none 0 0, .slice none 0 0] 67)).drewN n2) := ⟨_, rfl⟩
   have hs1 : w1.heap.size = w.heap.size + 1 := by rw [hw1]; simp
   have HX1 := yM (show w1.heap[w.heap.size]? = some (.cells #[.int .i64 0, .int .i64 0, .int .i64 0, .string ⟨#[]⟩, .slice none 0 0, .slice none 0 0] 67 (0, 0)) from hw1 ▸ blk_new w (.cells #[.int .i64 0, .int .i64 0, .int .i64 0, .string ⟨#[]⟩, .slice none 0 0, .slice none 0 0] 67))
   have HB1 := yM (show Below w.heap.size w w1 from hw1 ▸ (show Below w.heap.size w ((w.alloc (.cells #[.int .i64 0, .int .i64 0, .int .i64 0, .string ⟨#[]⟩, .slice none 0 0, .slice none 0 0] 67)).drewN n2) from bel))
   have HI1 := yM (show IsS79 w1 (w1.alloc (.cells #[.string s, .int .i64 0, .int .i64 0, .int .i64 0] 79)) (w.heap.size + 1) s 0 0 0 from ⟨by have := blk_new w1 (.cells #[.string s, .int .i64 0, .int .i64 0, .int .i64 0] 79); rw [hs1] at this; exact this, by omega⟩)
   rw [← hw1]
   clear hw1
   go_wp2_with fail
   refine (value_VC 200 0 (by decide) (by decide) k (w.heap.size + 1) s 0 0 0 r1 r2 r3 r4 r5 r6 r7 r8 r9 r10 w1 _ HI1.out (zA (Below.refl _ _) _) HV.out).mono ?_
   rintro e w2 ⟨v4, v5, rfl, h4, h5, hi2, hb2, _⟩
   obtain ⟨A4, c4, rfl⟩ := Kd.R_slice h4
   obtain ⟨A5, c5, rfl⟩ := Kd.R_slice h5
   have HM3 := yM (M_node (G := w.heap.size + 1) (x := ⟨r1, r2, r3, r4, r5, r6⟩) h4 h5 (by simp; omega) (by simp; omega))
   have HRD := yM (RS.alloc hi2 hb2 HX1.out HB1.out hs1 HM3.out)
   have HH2 := HH.out
   clear h4 h5 hi2 hb2 HX1 HB1 HI1 HM3 HH HV HU HU2 hs1
   go_upto_region 8 with fail
   obtain ⟨w3, hw3⟩ : ∃ w3, w3 = w2.alloc (.cells #[.int .i64 r1, .int .i64 r2, .int .i64 r3, .string r4, .slice A4 r5.length c4, .slice A5 r6.length c5] 67) := ⟨_, rfl⟩
   obtain ⟨nb, hnb⟩ : ∃ nb, nb = w2.heap.size := ⟨_, rfl⟩
   have HR3 := yM (show RS w w1 w3 r7 r8 r9 r10 nb ⟨r1, r2, r3, r4, r5, r6⟩ [.int .i64 r1, .int .i64 r2, .int .i64 r3, .string r4, .slice A4 r5.length c4, .slice A5 r6.length c5] from hw3 ▸ hnb ▸ HRD.out)
   rw [← hw3, ← hnb]
   clear hw3 hnb HRD
   by_cases g3 : r9 = 0
   ·rw [if_pos g3] at HH2
    have b3 : (r9 == 0) = true := beq_iff_eq.mpr g3
    replace HH2 := yO HH2
    obtain ⟨⟨t1, t2, t3, t4, t5⟩, hn, HH2⟩ := HH2
    dsimp only at HH2
    have HNX := yM hn
    clear hn g3
    obtain ⟨c0, c1, c2, c3, cf, lt⟩ := s4 HR3.out.hi
    have hfail : ∀ {e' p' q1 q2 q3 q4}, T_fail.f t2 t3 e' p' 120 t3 = some (q1, q2, q3, q4) → q3 ≠ 0 := by
     intro e' p' q1 q2 q3 q4 h
     unfold T_fail.f at h
     by_cases he : e' = 0
     ·rw [if_pos he] at h
      injection h with h
      simp only [Prod.mk.injEq] at h
      omega
     ·rw [if_neg he] at h
      injection h with h
      simp only [Prod.mk.injEq] at h
      omega
    by_cases q1 : t1 = 0
    ·have k1 : (t1 != 0) = false := bne_eq_false_iff_eq.mpr q1
     by_cases q2 : t3 < (s.size : Int)
     ·have k2 : decide (t3 < (s.size : Int)) = true := decide_eq_true q2
      rw [if_pos (Or.inr q2)] at HH2
      clear q1
      replace HH2 := yO HH2
      obtain ⟨⟨e1, e2, e3, e4⟩, hf, HH2⟩ := HH2
      obtain rfl := Option.some.inj HH2
      have g5 := hfail hf
      dsimp only
      have b4 : (e3 != 0) = true := bne_iff_ne.mpr g5
      have HG := yM g5
      have HF := yM hf
      clear HH2 hf g5 hfail
      go_upto_region 9 with (go_at_call 33; refine (T_next.calls k _ _ _ _ _ _ _ _ _ _ w1 _ HR3.out.hi HR3.out.b1 HNX.out).mono ?_; rintro e w5 ⟨rfl, hi5, hb5, hk5⟩; have HR5 := yM (HR3.out.step hi5 hb5 hk5); clear c0 c1 c2 c3 cf lt; obtain ⟨c0, c1, c2, c3, cf, lt⟩ := s4 hi5; clear hi5 hb5 hk5)
      go_wp2_with fail
      refine (T_fail.calls _ _ _ _ _ _ _ _ _ _ _ w1 _ HR5.out.hi HR5.out.b1 HF.out).mono ?_
      rintro e w6 ⟨rfl, hi6, hb6, hk6⟩
      have HR6 := yM (HR5.out.step hi6 hb6 hk6)
      clear c0 c1 c2 c3 cf lt
      obtain ⟨c0, c1, c2, c3, cf, lt⟩ := s4 hi6
      clear hi6 hb6 hk6
      obtain ⟨x0, x1, x2, x3, x4, x5, xf, xl⟩ := c6 HR6.out.x
      have hne : w.heap.size + 1 ≠ w.heap.size := Nat.succ_ne_self _
      go_wp2
      refine start_ (n := 12) (S := fun w' => w'.cell? ⟨w.heap.size + 1, 2, none⟩ = some (.int .i64 e3) ∧ w'.cell? ⟨w.heap.size + 1, 3, none⟩ = some (.int .i64 e4)) (ds := []) #[false, false, false, false, false, false, false, false, false, false, false, false] (by kernel_rfl) rfl rfl ⟨c2, c3⟩ (fun hHeld => ?_)
      refine pure_ (i := 0) (N := some 53) (v := ?_) (a' := ?_) #[true, false, false, false, false, false, false, false, false, false, false, false] rfl rfl (by kernel_rfl) (fun _ _ _ h => h) (Or.inl ⟨by rfl, ?_⟩) ?_ ?_
      rotate_left
      ·intro w'
       go_simp
       with_reducible rfl
      rotate_left
      ·simp only [Act.put, yX, yY, yZ, i64_w, i32_w]
       rfl
      refine pure_ (i := 1) (N := some 54) (v := ?_) (a' := ?_) #[true, true, false, false, false, false, false, false, false, false, false, false] rfl rfl (by kernel_rfl) (fun _ _ _ h => h) (Or.inl ⟨by rfl, ?_⟩) ?_ ?_
      rotate_left
      ·intro w'
       go_simp
       with_reducible rfl
      rotate_left
      ·simp only [Act.put, yX, yY, yZ, i64_w, i32_w]
       rfl
      refine pure_ (i := 2) (N := some 55) (v := ?_) (a' := ?_) #[true, true, true, false, false, false, false, false, false, false, false, false] rfl rfl (by kernel_rfl) (fun _ _ _ h => h) (Or.inl ⟨by rfl, ?_⟩) ?_ ?_
      rotate_left
      ·intro w'
       go_simp
       with_reducible rfl
      rotate_left
      ·simp only [Act.put, yX, yY, yZ, i64_w, i32_w]
       rfl
      refine pure_ (i := 3) (N := some 56) (v := ?_) (a' := ?_) #[true, true, true, true, false, false, false, false, false, false, false, false] rfl rfl (by kernel_rfl) (fun _ _ _ h => h) (Or.inl ⟨by rfl, ?_⟩) ?_ ?_
      rotate_left
      ·intro w'
       go_simp
       with_reducible rfl
      rotate_left
      ·simp only [Act.put, yX, yY, yZ, i64_w, i32_w]
       rfl
      refine pure_ (i := 5) (N := some 58) (v := ?_) (a' := ?_) #[true, true, true, true, false, true, false, false, false, false, false, false] rfl rfl (by kernel_rfl) (fun _ _ _ h => h) (Or.inl ⟨by rfl, ?_⟩) ?_ ?_
      rotate_left
      ·intro w'
       go_simp
       with_reducible rfl
      rotate_left
      ·simp only [Act.put, yX, yY, yZ, i64_w, i32_w]
       rfl
      refine pure_ (i := 6) (N := some 59) (v := ?_) (a' := ?_) #[true, true, true, true, false, true, true, false, false, false, false, false] rfl rfl (by kernel_rfl) (fun _ _ _ h => h) (Or.inl ⟨by rfl, ?_⟩) ?_ ?_
      rotate_left
      ·intro w'
       go_simp
       with_reducible rfl
      rotate_left
      ·simp only [Act.put, yX, yY, yZ, i64_w, i32_w]
       rfl
      refine pure_ (i := 7) (N := some 60) (v := ?_) (a' := ?_) #[true, true, true, true, false, true, true, true, false, false, false, false] rfl rfl (by kernel_rfl) (fun _ _ _ h => h) (Or.inl ⟨by rfl, ?_⟩) ?_ ?_
      rotate_left
      ·intro w'
       go_simp
       with_reducible rfl
      rotate_left
      ·simp only [Act.put, yX, yY, yZ, i64_w, i32_w]
       rfl
      refine take_ (i := 4) (N := some 57) (v := ?_) (a' := ?_) #[true, true, true, true, true, true, true, true, false, false, false, false] rfl rfl (by kernel_rfl) (fun _ _ _ h => h) (Or.inl ⟨by rfl, ?_⟩) hHeld ?_ ?_
      rotate_left
      ·rintro w' ⟨s0, s1⟩
       go_simp
       with_reducible rfl
      rotate_left
      ·simp only [Act.put, yX, yY, yZ, i64_w, i32_w]
       rfl
      refine take_ (i := 8) (N := some 61) (v := ?_) (a' := ?_) #[true, true, true, true, true, true, true, true, true, false, false, false] rfl rfl (by kernel_rfl) (fun _ _ _ h => h) (Or.inl ⟨by rfl, ?_⟩) hHeld ?_ ?_
      rotate_left
      ·rintro w' ⟨s0, s1⟩
       go_simp
       with_reducible rfl
      rotate_left
      ·simp only [Act.put, yX, yY, yZ, i64_w, i32_w]
       rfl
      refine one_ (i := 9) (N := none) #[true, true, true, true, true, true, true, true, true, true, false, false] rfl rfl (by kernel_rfl) (by decide) (fun K hK => ?_)
      refine skip_ (w1 := ?_) (by rfl) rfl ?_ ?_
      rotate_left
      ·go_simp
       rfl
      refine hK.out _ _ ⟨far6d hne c2 _ _ _ _ _ _, far6d hne c3 _ _ _ _ _ _⟩ (fun hHeld => ?_)
      clear hK K
      refine pure_ (i := 10) (N := some 3) (v := ?_) (a' := ?_) #[true, true, true, true, true, true, true, true, true, true, true, false] rfl rfl (by kernel_rfl) (fun _ _ _ h => h) (Or.inl ⟨by rfl, ?_⟩) ?_ ?_
      rotate_left
      ·intro w'
       go_simp
       with_reducible rfl
      rotate_left
      ·simp only [Act.put, yX, yY, yZ, i64_w, i32_w]
       rfl
      refine pure_ (i := 11) (N := some 4) (v := ?_) (a' := ?_) #[true, true, true, true, true, true, true, true, true, true, true, true] rfl rfl (by kernel_rfl) (fun _ _ _ h => h) (Or.inl ⟨by rfl, ?_⟩) ?_ ?_
      rotate_left
      ·intro w'
       go_simp
       with_reducible rfl
      rotate_left
      ·simp only [Act.put, yX, yY, yZ, i64_w, i32_w]
       rfl
      refine done_ (by kernel_rfl) ?_
      go_wp2
      refine bodyPost_ret (res3 rfl _ _ w.heap.size _ _ _ ((heap_drew _).trans (pset6 HR6.out.x _ _ _ _ _ _)) rfl rfl rfl rfl) rfl ?_
      exact RPost.fin_no HG.out ⟨[.int .i64 0, .int .i64 0, .int .i64 0, .string ⟨#[]⟩, .slice none 0 0, .slice none 0 0], rfl, M_z67 _ _, below_drew (bel_fill HR6.out.b _ _ _ _ _ _)⟩
     ·have k2 : decide (t3 < (s.size : Int)) = false := decide_eq_false q2
      rw [if_neg (by simp [q1, q2])] at HH2
      obtain rfl := Option.some.inj HH2
      clear q1 HH2 hfail
      go_upto_region 10 with (go_at_call 33; refine (T_next.calls k _ _ _ _ _ _ _ _ _ _ w1 _ HR3.out.hi HR3.out.b1 HNX.out).mono ?_; rintro e w5 ⟨rfl, hi5, hb5, hk5⟩; have HR5 := yM (HR3.out.step hi5 hb5 hk5); clear c0 c1 c2 c3 cf lt; obtain ⟨c0, c1, c2, c3, cf, lt⟩ := s4 hi5; clear hi5 hb5 hk5)
      by_cases g5 : t4 = 0
      ·have b5 : (t4 != 0) = false := bne_eq_false_iff_eq.mpr g5
       have HG := yM g5
       clear g5
       obtain ⟨x0, x1, x2, x3, x4, x5, xf, xl⟩ := c6 HR5.out.x
       obtain ⟨y0, y1, y2, y3, y4, y5, yf, yl⟩ := c6 HR5.out.bx
       go_wp2
       refine bodyPost_ret (res3 rfl _ _ w.heap.size _ _ _ (pset6 HR5.out.x _ _ _ _ _ _) rfl rfl rfl rfl) rfl ?_
       exact RPost.fin_yes HG.out ⟨[.int .i64 r1, .int .i64 r2, .int .i64 r3, .string r4, .slice A4 r5.length c4, .slice A5 r6.length c5], rfl, HR5.out.end_ _ _ _ _ _ _, bel_fill HR5.out.b _ _ _ _ _ _⟩
      ·have b4 : (t4 != 0) = true := bne_iff_ne.mpr g5
       have HG := yM g5
       clear g5
       obtain ⟨x0, x1, x2, x3, x4, x5, xf, xl⟩ := c6 HR5.out.x
       have hne : w.heap.size + 1 ≠ w.heap.size := Nat.succ_ne_self _
       go_wp2
       refine start_ (n := 12) (S := fun w' => w'.cell? ⟨w.heap.size + 1, 2, none⟩ = some (.int .i64 t4) ∧ w'.cell? ⟨w.heap.size + 1, 3, none⟩ = some (.int .i64 t5)) (ds := []) #[false, false, false, false, false, false, false, false, false, false, false, false] (by kernel_rfl) rfl rfl ⟨c2, c3⟩ (fun hHeld => ?_)
       refine pure_ (i := 0) (N := some 53) (v := ?_) (a' := ?_) #[true, false, false, false, false, false, false, false, false, false, false, false] rfl rfl (by kernel_rfl) (fun _ _ _ h => h) (Or.inl ⟨by rfl, ?_⟩) ?_ ?_
       rotate_left
       ·intro w'
        go_simp
        with_reducible rfl
       rotate_left
       ·simp only [Act.put, yX, yY, yZ, i64_w, i32_w]
        rfl
       refine pure_ (i := 1) (N := some 54) (v := ?_) (a' := ?_) #[true, true, false, false, false, false, false, false, false, false, false, false] rfl rfl (by kernel_rfl) (fun _ _ _ h => h) (Or.inl ⟨by rfl, ?_⟩) ?_ ?_
       rotate_left
       ·intro w'
        go_simp
        with_reducible rfl
       rotate_left
       ·simp only [Act.put, yX, yY, yZ, i64_w, i32_w]
        rfl
       refine pure_ (i := 2) (N := some 55) (v := ?_) (a' := ?_) #[true, true, true, false, false, false, false, false, false, false, false, false] rfl rfl (by kernel_rfl) (fun _ _ _ h => h) (Or.inl ⟨by rfl, ?_⟩) ?_ ?_
       rotate_left
       ·intro w'
        go_simp
        with_reducible rfl
       rotate_left
       ·simp only [Act.put, yX, yY, yZ, i64_w, i32_w]
        rfl
       refine pure_ (i := 3) (N := some 56) (v := ?_) (a' := ?_) #[true, true, true, true, false, false, false, false, false, false, false, false] rfl rfl (by kernel_rfl) (fun _ _ _ h => h) (Or.inl ⟨by rfl, ?_⟩) ?_ ?_
       rotate_left
       ·intro w'
        go_simp
        with_reducible rfl
       rotate_left
       ·simp only [Act.put, yX, yY, yZ, i64_w, i32_w]
        rfl
       refine pure_ (i := 5) (N := some 58) (v := ?_) (a' := ?_) #[true, true, true, true, false, true, false, false, false, false, false, false] rfl rfl (by kernel_rfl) (fun _ _ _ h => h) (Or.inl ⟨by rfl, ?_⟩) ?_ ?_
       rotate_left
       ·intro w'
        go_simp
        with_reducible rfl
       rotate_left
       ·simp only [Act.put, yX, yY, yZ, i64_w, i32_w]
        rfl
       refine pure_ (i := 6) (N := some 59) (v := ?_) (a' := ?_) #[true, true, true, true, false, true, true, false, false, false, false, false] rfl rfl (by kernel_rfl) (fun _ _ _ h => h) (Or.inl ⟨by rfl, ?_⟩) ?_ ?_
       rotate_left
       ·intro w'
        go_simp
        with_reducible rfl
       rotate_left
       ·simp only [Act.put, yX, yY, yZ, i64_w, i32_w]
        rfl
       refine pure_ (i := 7) (N := some 60) (v := ?_) (a' := ?_) #[true, true, true, true, false, true, true, true, false, false, false, false] rfl rfl (by kernel_rfl) (fun _ _ _ h => h) (Or.inl ⟨by rfl, ?_⟩) ?_ ?_
       rotate_left
       ·intro w'
        go_simp
        with_reducible rfl
       rotate_left
       ·simp only [Act.put, yX, yY, yZ, i64_w, i32_w]
        rfl
       refine take_ (i := 4) (N := some 57) (v := ?_) (a' := ?_) #[true, true, true, true, true, true, true, true, false, false, false, false] rfl rfl (by kernel_rfl) (fun _ _ _ h => h) (Or.inl ⟨by rfl, ?_⟩) hHeld ?_ ?_
       rotate_left
       ·rintro w' ⟨s0, s1⟩
        go_simp
        with_reducible rfl
       rotate_left
       ·simp only [Act.put, yX, yY, yZ, i64_w, i32_w]
        rfl
       refine take_ (i := 8) (N := some 61) (v := ?_) (a' := ?_) #[true, true, true, true, true, true, true, true, true, false, false, false] rfl rfl (by kernel_rfl) (fun _ _ _ h => h) (Or.inl ⟨by rfl, ?_⟩) hHeld ?_ ?_
       rotate_left
       ·rintro w' ⟨s0, s1⟩
        go_simp
        with_reducible rfl
       rotate_left
       ·simp only [Act.put, yX, yY, yZ, i64_w, i32_w]
        rfl
       refine one_ (i := 9) (N := none) #[true, true, true, true, true, true, true, true, true, true, false, false] rfl rfl (by kernel_rfl) (by decide) (fun K hK => ?_)
       refine skip_ (w1 := ?_) (by rfl) rfl ?_ ?_
       rotate_left
       ·go_simp
        rfl
       refine hK.out _ _ ⟨far6d hne c2 _ _ _ _ _ _, far6d hne c3 _ _ _ _ _ _⟩ (fun hHeld => ?_)
       clear hK K
       refine pure_ (i := 10) (N := some 3) (v := ?_) (a' := ?_) #[true, true, true, true, true, true, true, true, true, true, true, false] rfl rfl (by kernel_rfl) (fun _ _ _ h => h) (Or.inl ⟨by rfl, ?_⟩) ?_ ?_
       rotate_left
       ·intro w'
        go_simp
        with_reducible rfl
       rotate_left
       ·simp only [Act.put, yX, yY, yZ, i64_w, i32_w]
        rfl
       refine pure_ (i := 11) (N := some 4) (v := ?_) (a' := ?_) #[true, true, true, true, true, true, true, true, true, true, true, true] rfl rfl (by kernel_rfl) (fun _ _ _ h => h) (Or.inl ⟨by rfl, ?_⟩) ?_ ?_
       rotate_left
       ·intro w'
        go_simp
        with_reducible rfl
       rotate_left
       ·simp only [Act.put, yX, yY, yZ, i64_w, i32_w]
        rfl
       refine done_ (by kernel_rfl) ?_
       go_wp2
       refine bodyPost_ret (res3 rfl _ _ w.heap.size _ _ _ ((heap_drew _).trans (pset6 HR5.out.x _ _ _ _ _ _)) rfl rfl rfl rfl) rfl ?_
       exact RPost.fin_no HG.out ⟨[.int .i64 0, .int .i64 0, .int .i64 0, .string ⟨#[]⟩, .slice none 0 0, .slice none 0 0], rfl, M_z67 _ _, below_drew (bel_fill HR5.out.b _ _ _ _ _ _)⟩
    ·have k1 : (t1 != 0) = true := bne_iff_ne.mpr q1
     rw [if_pos (Or.inl q1)] at HH2
     clear q1
     replace HH2 := yO HH2
     obtain ⟨⟨e1, e2, e3, e4⟩, hf, HH2⟩ := HH2
     obtain rfl := Option.some.inj HH2
     have g5 := hfail hf
     dsimp only
     have b4 : (e3 != 0) = true := bne_iff_ne.mpr g5
     have HG := yM g5
     have HF := yM hf
     clear HH2 hf g5 hfail
     go_upto_region 9 with (go_at_call 33; refine (T_next.calls k _ _ _ _ _ _ _ _ _ _ w1 _ HR3.out.hi HR3.out.b1 HNX.out).mono ?_; rintro e w5 ⟨rfl, hi5, hb5, hk5⟩; have HR5 := yM (HR3.out.step hi5 hb5 hk5); clear c0 c1 c2 c3 cf lt; obtain ⟨c0, c1, c2, c3, cf, lt⟩ := s4 hi5; clear hi5 hb5 hk5)
     go_wp2_with fail
     refine (T_fail.calls _ _ _ _ _ _ _ _ _ _ _ w1 _ HR5.out.hi HR5.out.b1 HF.out).mono ?_
     rintro e w6 ⟨rfl, hi6, hb6, hk6⟩
     have HR6 := yM (HR5.out.step hi6 hb6 hk6)
     clear c0 c1 c2 c3 cf lt
     obtain ⟨c0, c1, c2, c3, cf, lt⟩ := s4 hi6
     clear hi6 hb6 hk6
     obtain ⟨x0, x1, x2, x3, x4, x5, xf, xl⟩ := c6 HR6.out.x
     have hne : w.heap.size + 1 ≠ w.heap.size := Nat.succ_ne_self _
     go_wp2
     refine start_ (n := 12) (S := fun w' => w'.cell? ⟨w.heap.size + 1, 2, none⟩ = some (.int .i64 e3) ∧ w'.cell? ⟨w.heap.size + 1, 3, none⟩ = some (.int .i64 e4)) (ds := []) #[false, false, false, false, false, false, false, false, false, false, false, false] (by kernel_rfl) rfl rfl ⟨c2, c3⟩ (fun hHeld => ?_)
     refine pure_ (i := 0) (N := some 53) (v := ?_) (a' := ?_) #[true, false, false, false, false, false, false, false, false, false, false, false] rfl rfl (by kernel_rfl) (fun _ _ _ h => h) (Or.inl ⟨by rfl, ?_⟩) ?_ ?_
     rotate_left
     ·intro w'
      go_simp
      with_reducible rfl
     rotate_left
     ·simp only [Act.put, yX, yY, yZ, i64_w, i32_w]
      rfl
     refine pure_ (i := 1) (N := some 54) (v := ?_) (a' := ?_) #[true, true, false, false, false, false, false, false, false, false, false, false] rfl rfl (by kernel_rfl) (fun _ _ _ h => h) (Or.inl ⟨by rfl, ?_⟩) ?_ ?_
     rotate_left
     ·intro w'
      go_simp
      with_reducible rfl
     rotate_left
     ·simp only [Act.put, yX, yY, yZ, i64_w, i32_w]
      rfl
     refine pure_ (i := 2) (N := some 55) (v := ?_) (a' := ?_) #[true, true, true, false, false, false, false, false, false, false, false, false] rfl rfl (by kernel_rfl) (fun _ _ _ h => h) (Or.inl ⟨by rfl, ?_⟩) ?_ ?_
     rotate_left
     ·intro w'
      go_simp
      with_reducible rfl
     rotate_left
     ·simp only [Act.put, yX, yY, yZ, i64_w, i32_w]
      rfl
     refine pure_ (i := 3) (N := some 56) (v := ?_) (a' := ?_) #[true, true, true, true, false, false, false, false, false, false, false, false] rfl rfl (by kernel_rfl) (fun _ _ _ h => h) (Or.inl ⟨by rfl, ?_⟩) ?_ ?_
     rotate_left
     ·intro w'
      go_simp
      with_reducible rfl
     rotate_left
     ·simp only [Act.put, yX, yY, yZ, i64_w, i32_w]
      rfl
     refine pure_ (i := 5) (N := some 58) (v := ?_) (a' := ?_) #[true, true, true, true, false, true, false, false, false, false, false, false] rfl rfl (by kernel_rfl) (fun _ _ _ h => h) (Or.inl ⟨by rfl, ?_⟩) ?_ ?_
     rotate_left
     ·intro w'
      go_simp
      with_reducible rfl
     rotate_left
     ·simp only [Act.put, yX, yY, yZ, i64_w, i32_w]
      rfl
     refine pure_ (i := 6) (N := some 59) (v := ?_) (a' := ?_) #[true, true, true, true, false, true, true, false, false, false, false, false] rfl rfl (by kernel_rfl) (fun _ _ _ h => h) (Or.inl ⟨by rfl, ?_⟩) ?_ ?_
     rotate_left
     ·intro w'
      go_simp
      with_reducible rfl
     rotate_left
     ·simp only [Act.put, yX, yY, yZ, i64_w, i32_w]
      rfl
     refine pure_ (i := 7) (N := some 60) (v := ?_) (a' := ?_) #[true, true, true, true, false, true, true, true, false, false, false, false] rfl rfl (by kernel_rfl) (fun _ _ _ h => h) (Or.inl ⟨by rfl, ?_⟩) ?_ ?_
     rotate_left
     ·intro w'
      go_simp
      with_reducible rfl
     rotate_left
     ·simp only [Act.put, yX, yY, yZ, i64_w, i32_w]
      rfl
     refine take_ (i := 4) (N := some 57) (v := ?_) (a' := ?_) #[true, true, true, true, true, true, true, true, false, false, false, false] rfl rfl (by kernel_rfl) (fun _ _ _ h => h) (Or.inl ⟨by rfl, ?_⟩) hHeld ?_ ?_
     rotate_left
     ·rintro w' ⟨s0, s1⟩
      go_simp
      with_reducible rfl
     rotate_left
     ·simp only [Act.put, yX, yY, yZ, i64_w, i32_w]
      rfl
     refine take_ (i := 8) (N := some 61) (v := ?_) (a' := ?_) #[true, true, true, true, true, true, true, true, true, false, false, false] rfl rfl (by kernel_rfl) (fun _ _ _ h => h) (Or.inl ⟨by rfl, ?_⟩) hHeld ?_ ?_
     rotate_left
     ·rintro w' ⟨s0, s1⟩
      go_simp
      with_reducible rfl
     rotate_left
     ·simp only [Act.put, yX, yY, yZ, i64_w, i32_w]
      rfl
     refine one_ (i := 9) (N := none) #[true, true, true, true, true, true, true, true, true, true, false, false] rfl rfl (by kernel_rfl) (by decide) (fun K hK => ?_)
     refine skip_ (w1 := ?_) (by rfl) rfl ?_ ?_
     rotate_left
     ·go_simp
      rfl
     refine hK.out _ _ ⟨far6d hne c2 _ _ _ _ _ _, far6d hne c3 _ _ _ _ _ _⟩ (fun hHeld => ?_)
     clear hK K
     refine pure_ (i := 10) (N := some 3) (v := ?_) (a' := ?_) #[true, true, true, true, true, true, true, true, true, true, true, false] rfl rfl (by kernel_rfl) (fun _ _ _ h => h) (Or.inl ⟨by rfl, ?_⟩) ?_ ?_
     rotate_left
     ·intro w'
      go_simp
      with_reducible rfl
     rotate_left
     ·simp only [Act.put, yX, yY, yZ, i64_w, i32_w]
      rfl
     refine pure_ (i := 11) (N := some 4) (v := ?_) (a' := ?_) #[true, true, true, true, true, true, true, true, true, true, true, true] rfl rfl (by kernel_rfl) (fun _ _ _ h => h) (Or.inl ⟨by rfl, ?_⟩) ?_ ?_
     rotate_left
     ·intro w'
      go_simp
      with_reducible rfl
     rotate_left
     ·simp only [Act.put, yX, yY, yZ, i64_w, i32_w]
      rfl
     refine done_ (by kernel_rfl) ?_
     go_wp2
     refine bodyPost_ret (res3 rfl _ _ w.heap.size _ _ _ ((heap_drew _).trans (pset6 HR6.out.x _ _ _ _ _ _)) rfl rfl rfl rfl) rfl ?_
     exact RPost.fin_no HG.out ⟨[.int .i64 0, .int .i64 0, .int .i64 0, .string ⟨#[]⟩, .slice none 0 0, .slice none 0 0], rfl, M_z67 _ _, below_drew (bel_fill HR6.out.b _ _ _ _ _ _)⟩
   ·rw [if_neg g3] at HH2
    obtain rfl := Option.some.inj HH2
    have b3 : (r9 == 0) = false := yB g3
    have b4 : (r9 != 0) = true := bne_iff_ne.mpr g3
    clear HH2 g3
    obtain ⟨c0, c1, c2, c3, cf, lt⟩ := s4 HR3.out.hi
    obtain ⟨x0, x1, x2, x3, x4, x5, xf, xl⟩ := c6 HR3.out.x
    have hne : w.heap.size + 1 ≠ w.heap.size := Nat.succ_ne_self _
    go_wp2
    refine start_ (n := 12) (S := fun w' => w'.cell? ⟨w.heap.size + 1, 2, none⟩ = some (.int .i64 r9) ∧ w'.cell? ⟨w.heap.size + 1, 3, none⟩ = some (.int .i64 r10)) (ds := []) #[false, false, false, false, false, false, false, false, false, false, false, false] (by kernel_rfl) rfl rfl ⟨c2, c3⟩ (fun hHeld => ?_)
    refine pure_ (i := 0) (N := some 53) (v := ?_) (a' := ?_) #[true, false, false, false, false, false, false, false, false, false, false, false] rfl rfl (by kernel_rfl) (fun _ _ _ h => h) (Or.inl ⟨by rfl, ?_⟩) ?_ ?_
    rotate_left
    ·intro w'
     go_simp
     with_reducible rfl
    rotate_left
    ·simp only [Act.put, yX, yY, yZ, i64_w, i32_w]
     rfl
    refine pure_ (i := 1) (N := some 54) (v := ?_) (a' := ?_) #[true, true, false, false, false, false, false, false, false, false, false, false] rfl rfl (by kernel_rfl) (fun _ _ _ h => h) (Or.inl ⟨by rfl, ?_⟩) ?_ ?_
    rotate_left
    ·intro w'
     go_simp
     with_reducible rfl
    rotate_left
    ·simp only [Act.put, yX, yY, yZ, i64_w, i32_w]
     rfl
    refine pure_ (i := 2) (N := some 55) (v := ?_) (a' := ?_) #[true, true, true, false, false, false, false, false, false, false, false, false] rfl rfl (by kernel_rfl) (fun _ _ _ h => h) (Or.inl ⟨by rfl, ?_⟩) ?_ ?_
    rotate_left
    ·intro w'
     go_simp
     with_reducible rfl
    rotate_left
    ·simp only [Act.put, yX, yY, yZ, i64_w, i32_w]
     rfl
    refine pure_ (i := 3) (N := some 56) (v := ?_) (a' := ?_) #[true, true, true, true, false, false, false, false, false, false, false, false] rfl rfl (by kernel_rfl) (fun _ _ _ h => h) (Or.inl ⟨by rfl, ?_⟩) ?_ ?_
    rotate_left
    ·intro w'
     go_simp
     with_reducible rfl
    rotate_left
    ·simp only [Act.put, yX, yY, yZ, i64_w, i32_w]
     rfl
    refine pure_ (i := 5) (N := some 58) (v := ?_) (a' := ?_) #[true, true, true, true, false, true, false, false, false, false, false, false] rfl rfl (by kernel_rfl) (fun _ _ _ h => h) (Or.inl ⟨by rfl, ?_⟩) ?_ ?_
    rotate_left
    ·intro w'
     go_simp
     with_reducible rfl
    rotate_left
    ·simp only [Act.put, yX, yY, yZ, i64_w, i32_w]
     rfl
    refine pure_ (i := 6) (N := some 59) (v := ?_) (a' := ?_) #[true, true, true, true, false, true, true, false, false, false, false, false] rfl rfl (by kernel_rfl) (fun _ _ _ h => h) (Or.inl ⟨by rfl, ?_⟩) ?_ ?_
    rotate_left
    ·intro w'
     go_simp
     with_reducible rfl
    rotate_left
    ·simp only [Act.put, yX, yY, yZ, i64_w, i32_w]
     rfl
    refine pure_ (i := 7) (N := some 60) (v := ?_) (a' := ?_) #[true, true, true, true, false, true, true, true, false, false, false, false] rfl rfl (by kernel_rfl) (fun _ _ _ h => h) (Or.inl ⟨by rfl, ?_⟩) ?_ ?_
    rotate_left
    ·intro w'
     go_simp
     with_reducible rfl
    rotate_left
    ·simp only [Act.put, yX, yY, yZ, i64_w, i32_w]
     rfl
    refine take_ (i := 4) (N := some 57) (v := ?_) (a' := ?_) #[true, true, true, true, true, true, true, true, false, false, false, false] rfl rfl (by kernel_rfl) (fun _ _ _ h => h) (Or.inl ⟨by rfl, ?_⟩) hHeld ?_ ?_
    rotate_left
    ·rintro w' ⟨s0, s1⟩
     go_simp
     with_reducible rfl
    rotate_left
    ·simp only [Act.put, yX, yY, yZ, i64_w, i32_w]
     rfl
    refine take_ (i := 8) (N := some 61) (v := ?_) (a' := ?_) #[true, true, true, true, true, true, true, true, true, false, false, false] rfl rfl (by kernel_rfl) (fun _ _ _ h => h) (Or.inl ⟨by rfl, ?_⟩) hHeld ?_ ?_
    rotate_left
    ·rintro w' ⟨s0, s1⟩
     go_simp
     with_reducible rfl
    rotate_left
    ·simp only [Act.put, yX, yY, yZ, i64_w, i32_w]
     rfl
    refine one_ (i := 9) (N := none) #[true, true, true, true, true, true, true, true, true, true, false, false] rfl rfl (by kernel_rfl) (by decide) (fun K hK => ?_)
    refine skip_ (w1 := ?_) (by rfl) rfl ?_ ?_
    rotate_left
    ·go_simp
     rfl
    refine hK.out _ _ ⟨far6d hne c2 _ _ _ _ _ _, far6d hne c3 _ _ _ _ _ _⟩ (fun hHeld => ?_)
    clear hK K
    refine pure_ (i := 10) (N := some 3) (v := ?_) (a' := ?_) #[true, true, true, true, true, true, true, true, true, true, true, false] rfl rfl (by kernel_rfl) (fun _ _ _ h => h) (Or.inl ⟨by rfl, ?_⟩) ?_ ?_
    rotate_left
    ·intro w'
     go_simp
     with_reducible rfl
    rotate_left
    ·simp only [Act.put, yX, yY, yZ, i64_w, i32_w]
     rfl
    refine pure_ (i := 11) (N := some 4) (v := ?_) (a' := ?_) #[true, true, true, true, true, true, true, true, true, true, true, true] rfl rfl (by kernel_rfl) (fun _ _ _ h => h) (Or.inl ⟨by rfl, ?_⟩) ?_ ?_
    rotate_left
    ·intro w'
     go_simp
     with_reducible rfl
    rotate_left
    ·simp only [Act.put, yX, yY, yZ, i64_w, i32_w]
     rfl
    refine done_ (by kernel_rfl) ?_
    go_wp2
    refine bodyPost_ret (res3 rfl _ _ w.heap.size _ _ _ ((heap_drew _).trans (pset6 HR3.out.x _ _ _ _ _ _)) rfl rfl rfl rfl) rfl ?_
    exact ⟨[.int .i64 0, .int .i64 0, .int .i64 0, .string ⟨#[]⟩, .slice none 0 0, .slice none 0 0], rfl, M_z67 _ _, below_drew (bel_fill HR3.out.b _ _ _ _ _ _)⟩
def Compact.f (k : Nat) (s : ByteArray) : Option (ByteArray × Int × Int) :=
 (Read.f k s).bind fun r => if r.2.1 = 0 then (tight.f k [] s r.1).bind fun l => some (strOfNums l, 0, 0) else some (⟨#[]⟩, r.2.1, r.2.2)
def DPost (w : World) (r : ByteArray × Int × Int) (e : Ending) (w' : World) : Prop := e = .returned (.tuple #[.string r.1, .int .i64 r.2.1, .int .i64 r.2.2]) ∧ Below w.heap.size w w'
set_option maxHeartbeats 4000000 in
set_option maxRecDepth 100000 in
theorem doc_calls (k : Nat) (s : ByteArray) (r : ByteArray × Int × Int) (h : Compact.f k s = some r) (w : World) : Calls Tryd.prog 11 #[.string s] w (DPost w r) := by
 unfold Compact.f at h
 obtain ⟨⟨n, e0, p0⟩, hr, h⟩ := yO h
 dsimp only at h
 have HR := yM (dread_calls k s _ hr w)
 clear hr
 by_cases g : e0 = 0
 ·rw [if_pos g] at h
  obtain ⟨l, hl, h⟩ := yO h
  obtain rfl := Option.some.inj h
  have b1 : (e0 != 0) = false := bne_eq_false_iff_eq.mpr g
  have HL := yM hl
  clear g hl h
  go_enter Tryd.func11, Tryd.ntmps11
  go_upto_region 1 with fail
  go_wp2_with (go_at_call 18; refine HR.out.mono ?_; rintro e w1 ⟨cs, rfl, hm, hb⟩; obtain ⟨v4, v5, rfl, g4, g5⟩ := k67_openM hm; obtain ⟨A4, c4, rfl⟩ := Kd.R_slice g4; obtain ⟨A5, c5, rfl⟩ := Kd.R_slice g5; have HM := yM hm; have HB := yM hb; clear hm hb g4 g5)
  refine (tight_all k _ _ _ _ HL.out w1 _ _ _ (k67.M_move (fun j hj => (bel (w := w1)).block j hj) HM.out) ⟨Kd.R_nil _ _ _ _ _, bel⟩).mono ?_
  rintro e w2 ⟨u', rfl, hT, _⟩
  have hc := own_string (P := Tryd.prog) Tryd.underlying49 Tryd.underlying5 Tryd.underlying9 (Kd.own_of_R hT.row)
  have HB2 := yM hT.bel
  go_wp2
  refine bodyPost_ret (by simp [results, Tryd.results11, go_sem]; rfl) rfl ?_
  exact ⟨rfl, HB.out.trans (HB2.out.mono HB.out.size)⟩
 ·rw [if_neg g] at h
  obtain rfl := Option.some.inj h
  have b1 : (e0 != 0) = true := bne_iff_ne.mpr g
  clear g h
  go_enter Tryd.func11, Tryd.ntmps11
  go_wp2_with (go_at_call 18; refine HR.out.mono ?_; rintro e w1 ⟨cs, rfl, hm, hb⟩; obtain ⟨v4, v5, rfl, g4, g5⟩ := k67_openM hm; obtain ⟨A4, c4, rfl⟩ := Kd.R_slice g4; obtain ⟨A5, c5, rfl⟩ := Kd.R_slice g5; have HB := yM hb; clear hm hb g4 g5)
  refine bodyPost_ret (by simp [results, Tryd.results11, go_sem]; rfl) rfl ?_
  exact ⟨rfl, HB.out.trans ((bel (w := w1)).mono HB.out.size)⟩
end Go.Proofs.YtbpiahpkbapijaaDoor.J
end
