/- Lemmas and walks for the claim; no condition beyond what each states. -/
import Derived.Test.YtbpiahpkbapijaaDoorQ8
import Derived.Test.YtbpiahpkbapijaaDoorQ3
import Derived.WalkLawsBesides
import Derived.Maps.AppendAt
import Derived.ArgAppend
import Derived.Deep.AppendLies
import Derived.Lib.FrozenHead2
section
namespace Go.Proofs.YtbpiahpkbapijaaDoor.J
open Go.RowKit Go.Proofs.YtbpiahpkbapijaaDoorW.PrintWords Go.Proofs.YtbpiahpkbapijaaDoorW.PrintLast Go.Proofs.YtbpiahpkbapijaaDoorW.PrintMore
set_option linter.unusedVariables false
set_option linter.unusedSimpArgs false
structure Rd (B rb : Nat) (t : ByteArray) (W : World) (s : JS) (v : Value) : Prop where
 blk : ∃ P, (P = .pointer none ∨ P = .pointer (some ⟨rb, 3, none⟩)) ∧ W.heap[rb]? = some (.cells #[.string t, .int .i64 s.at_, .int .i64 s.op, P, v] 63 (0, 0))
 own : W.ownsRow B 5 1 v s.out.size (Lib.strCells s.out)
 base : B ≤ rb
 ht : (t.size : Int) ≤ 67108864
 a0 : 0 ≤ s.at_
 a1 : s.at_ ≤ (t.size : Int)
 o : (s.out.size : Int) ≤ s.at_
 p0 : 0 ≤ s.op
 p1 : s.op ≤ 200
structure Mv (rb : Nat) (W w' : World) (v v' : Value) : Prop where
 ch : Ch (fun k => k = rb ∨ v.ownBlock = some k) W w'
 own : ∀ k, v'.ownBlock = some k → k < W.heap.size → v.ownBlock = some k
theorem Mv.refl (rb : Nat) (W : World) (v : Value) : Mv rb W W v v := ⟨Ch.refl _ W, fun _ h _ => h⟩
theorem Mv.trans {rb : Nat} {W w1 w2 : World} {v v1 v2 : Value} (h : Mv rb W w1 v v1) (k : Mv rb w1 w2 v1 v2) : Mv rb W w2 v v2 :=
 ⟨⟨k.ch.os.trans h.ch.os, k.ch.tape.trans h.ch.tape, k.ch.output.trans h.ch.output, Nat.le_trans h.ch.size k.ch.size, fun i hi hn => (k.ch.block i (Nat.lt_of_lt_of_le hi h.ch.size) (fun e => hn (e.imp id (fun e => h.own i e hi)))).trans (h.ch.block i hi hn)⟩,
  fun i e hi => h.own i (k.own i e (Nat.lt_of_lt_of_le hi h.ch.size)) hi⟩
theorem Mv.fr {rb : Nat} {W w1 w2 : World} {v v' : Value} (h : Mv rb W w1 v v') [k : Fr w1 w2] : Mv rb W w2 v v' := ⟨h.ch.fr, h.own⟩
theorem Rd.lt {B rb : Nat} {t : ByteArray} {W : World} {s : JS} {v : Value} (h : Rd B rb t W s v) : rb < W.heap.size := by
 obtain ⟨P, _, h⟩ := h.blk
 exact (Array.getElem?_eq_some_iff.1 h).1
theorem own_kept {W W' : World} {B e n : Nat} {sz : Nat} {v : Value} {xs : List Value} (h : W.ownsRow B e sz v n xs) (hc : ∀ k, v.ownBlock = some k → W'.heap[k]? = W.heap[k]?) : W'.ownsRow B e sz v n xs := own_move h hc
theorem Rd.ne {B rb : Nat} {t : ByteArray} {W : World} {s : JS} {v : Value} (h : Rd B rb t W s v) : v.ownBlock ≠ some rb := by
 obtain ⟨P, _, hb⟩ := h.blk
 intro e
 rcases h.own.2 with ⟨rfl, _⟩ | ⟨g, cap, cur, rfl, _, hg, _⟩
 ·cases e
 ·obtain rfl : g = rb := Option.some.inj e
  rw [hg] at hb
  injection hb with hb
  injection hb with _ hb _
  cases hb
theorem Rd.olt {B rb : Nat} {t : ByteArray} {W : World} {s : JS} {v : Value} (h : Rd B rb t W s v) : ∀ k, v.ownBlock = some k → B ≤ k ∧ k < W.heap.size := by
 intro k hk
 rcases h.own.2 with ⟨rfl, _⟩ | ⟨g, cap, cur, rfl, hb, hg, _⟩
 ·cases hk
 ·obtain rfl : g = k := Option.some.inj hk
  exact ⟨hb, (Array.getElem?_eq_some_iff.1 hg).1⟩
theorem Rd.ch {B rb : Nat} {t : ByteArray} {W W' : World} {s : JS} {v : Value} {S : Nat → Prop} (h : Rd B rb t W s v) (hc : Ch S W W') (hb : ¬ S rb) (hv : ∀ k, v.ownBlock = some k → ¬ S k) : Rd B rb t W' s v := by
 have hlt := h.lt
 have hol := h.olt
 obtain ⟨⟨P, p, h1⟩, h2, h3⟩ := h
 exact ⟨⟨P, p, (hc.block rb hlt hb).trans h1⟩, own_kept h2 (fun k hk => hc.block k (hol k hk).2 (hv k hk)), h3, by assumption, by assumption, by assumption, by assumption, by assumption, by assumption⟩
theorem Rd.fr {B rb : Nat} {t : ByteArray} {W W' : World} {s : JS} {v : Value} (h : Rd B rb t W s v) [k : Fr W W'] : Rd B rb t W' s v :=
 h.ch (S := fun _ => False) (Ch.of_below (Fr.out k) _) (fun h => h) (fun _ _ h => h)
theorem Rd.at_ {B rb : Nat} {t : ByteArray} {W : World} {s : JS} {v : Value} (h : Rd B rb t W s v) :
  W.cell? ⟨rb, 0, none⟩ = some (.string t) ∧ W.cell? ⟨rb, 1, none⟩ = some (.int .i64 s.at_) ∧ W.cell? ⟨rb, 2, none⟩ = some (.int .i64 s.op) ∧ (∀ j, W.frozen? ⟨rb, j, none⟩ = false) ∧ rb < W.heap.size := by
 obtain ⟨P, _, hb⟩ := h.blk
 have g := pcell hb
 exact ⟨g.1 0 _ rfl, g.1 1 _ rfl, g.1 2 _ rfl, g.2.1, g.2.2⟩
theorem Rd.set1 {B rb : Nat} {t : ByteArray} {W : World} {s : JS} {v : Value} (h : Rd B rb t W s v) (a : Int) (h0 : (s.out.size : Int) ≤ a) (h1 : a ≤ (t.size : Int)) : Rd B rb t (W.setCell ⟨rb, 1, none⟩ (.int .i64 a)) ⟨a, s.op, s.out⟩ v := by
 have hne := h.ne
 obtain ⟨⟨P, p, hb⟩, h2, h3⟩ := h
 exact ⟨⟨P, p, pset hb 1 _⟩, own_kept h2 (fun k hk => Below.heap_setCell W ⟨rb, 1, none⟩ _ k (fun e => hne ((show k = rb from e) ▸ hk))), h3, by assumption, by show 0 ≤ a; omega, h1, h0, by assumption, by assumption⟩
theorem Rd.set2 {B rb : Nat} {t : ByteArray} {W : World} {s : JS} {v : Value} (h : Rd B rb t W s v) (a : Int) (h0 : 0 ≤ a) (h1 : a ≤ 200) : Rd B rb t (W.setCell ⟨rb, 2, none⟩ (.int .i64 a)) ⟨s.at_, a, s.out⟩ v := by
 have hne := h.ne
 obtain ⟨⟨P, p, hb⟩, h2, h3⟩ := h
 exact ⟨⟨P, p, pset hb 2 _⟩, own_kept h2 (fun k hk => Below.heap_setCell W ⟨rb, 2, none⟩ _ k (fun e => hne ((show k = rb from e) ▸ hk))), h3, by assumption, by assumption, by assumption, by assumption, h0, h1⟩
theorem Mv.set {rb : Nat} {W w1 : World} {v v' : Value} (h : Mv rb W w1 v v') (j : Nat) (u : Value) : Mv rb W (w1.setCell ⟨rb, j, none⟩ u) v v' := ⟨h.ch.set (fun _ => Or.inl rfl) u, h.own⟩
theorem own_neq {W : World} {B e T n : Nat} {sz : Nat} {v : Value} {xs : List Value} {g : Nat} {cs : Array Value} {fr : Nat × Nat} (h : W.ownsRow B e sz v n xs) (hb : W.heap[g]? = some (.cells cs T fr)) (hT : T ≠ e) : v.ownBlock ≠ some g := by
 rcases h.2 with ⟨rfl, _⟩ | ⟨q, cap, cur, rfl, _, hg, _⟩
 ·simp [Value.ownBlock]
 ·intro e
  obtain rfl : q = g := Option.some.inj e
  rw [hg] at hb
  simp only [Option.some.injEq, Obj.cells.injEq] at hb
  exact hT hb.2.1.symm
theorem info61 : (Tryd.prog.info? 61).map (·.size) = some 2 := by kernel_rfl
theorem lies63 : liesAt Tryd.prog Tryd.prog.depth 63 (5 / Tryd.prog.cellsOf 63) 3 61 1 = true := by kernel_rfl
set_option maxHeartbeats 1000000 in
set_option maxRecDepth 100000 in
theorem copyCheck_used (b : Nat) (w : World) (h0 : w.cell? ⟨b, 3, none⟩ = some (.pointer (some ⟨b, 3, none⟩))) :
  Calls Tryd.prog 85 #[.pointer (some ⟨b, 3, none⟩)] w fun e w' => e = .returned (.tuple #[]) ∧ w' = w := by
 obtain ⟨j, hj, _⟩ := Option.map_eq_some_iff.1 info61
 go_enter Tryd.func85, Tryd.ntmps85
 go_wp2
 rw [Lib.run_neq_ptr_same w _ Tryd.underlying59 hj]
 go_wp2
 go_end0
 exact ⟨rfl, rfl⟩
set_option maxHeartbeats 1000000 in
set_option maxRecDepth 100000 in
theorem copyCheck_fresh (b : Nat) (w : World) (h0 : w.cell? ⟨b, 3, none⟩ = some (.pointer none)) (hsh : w.shape? b = some (63, 5)) (hfz : w.frozen? ⟨b, 3, none⟩ = false) :
  Calls Tryd.prog 85 #[.pointer (some ⟨b, 3, none⟩)] w fun e w' => e = .returned (.tuple #[]) ∧ w' = w.setCell ⟨b, 3, none⟩ (.pointer (some ⟨b, 3, none⟩)) := by
 obtain ⟨j, hj, hjs⟩ := Option.map_eq_some_iff.1 info61
 go_enter Tryd.func85, Tryd.ntmps85
 go_wp2
 rw [Lib.run_to_unsafe w ⟨b, 3, none⟩ Tryd.underlying59 Tryd.underlying127 hj (by rw [hjs]; decide) hsh (by show 3 < 5; decide)]
 simp only [Result.andThen]
 rw [Oper.upon_value]
 go_wp2
 rw [run_callFunc_extern Tryd.func86 (by kernel_rfl) (by kernel_rfl) (by kernel_rfl) (e := Extern.AbiNoEscape.same) (by kernel_rfl)]
 rw [Lib.run_noEscape]
 simp only [Result.andThen]
 rw [Oper.upon_value]
 go_wp2
 rw [Lib.run_from_unsafe w ⟨b, 3, none⟩ Tryd.underlying127 Tryd.underlying59 hj hsh lies63]
 simp only [Result.andThen]
 rw [Oper.upon_value]
 go_wp2
 go_end0
 exact ⟨rfl, rfl⟩
theorem run_append_str_at {w : World} (B : Nat) (ty : TypeId) (v : Value) (n : Nat) (xs : List Value) (hown : w.ownsRow B 5 1 v n xs) (s : ByteArray) (hb : n + s.size ≤ 140737488355328) (hB : B ≤ w.heap.size) :
  ∃ v' w', (Builtin.append_ #[49, 9] ty #[v, .string s]).run Tryd.prog w = .ok v' w' ∧ w'.ownsRow B 5 1 v' (n + s.size) (xs ++ Lib.strCells s) ∧ w.grownBy w' v.ownBlock ∧ (∀ k, v'.ownBlock = some k → k < w.heap.size → v.ownBlock = some k) := by
 obtain ⟨i, hi, hz⟩ := Option.map_eq_some_iff.1 info5
 simp only [Prod.mk.injEq] at hz
 obtain ⟨hz, hsize, hby⟩ := hz
 have h63 : n + s.size ≤ maxLen := by simp only [maxLen]; omega
 rcases hown.2 with ⟨rfl, rfl⟩ | ⟨g, cap, cur, rfl, hbg, hg, hnc, hcm, hcs, htake⟩
 ·obtain ⟨v', w', h1, h2, h3, _⟩ := Lib.run_append_own_string (P := Tryd.prog) w w.heap.size 49 9 ty 5 i Tryd.underlying49 Tryd.underlying9 hi hz hsize hby (.slice none 0 0) 0 xs ⟨hown.1, .inl ⟨rfl, rfl⟩⟩ s h63 hb (Nat.le_refl _)
  refine ⟨v', w', h1, ⟨h2.1, h2.2.imp id (fun ⟨g, c, u, a1, a2, a3⟩ => ⟨g, c, u, a1, Nat.le_trans hB a2, a3⟩)⟩, h3, fun k hk hlt => ?_⟩
  rcases h2.2 with ⟨e, _⟩ | ⟨g, c, u, a1, a2, a3⟩
  ·subst e; cases hk
  ·subst a1
   obtain rfl : g = k := Option.some.inj hk
   omega
 ·have hxl : xs.length = n := by simpa using hown.1
  have hsmall : n + s.size ≤ 9223372036854775807 := by omega
  have hlen : (xs ++ Lib.strCells s).length = (n + s.size) * 1 := by rw [List.length_append, hxl, Lib.strCells_length, Nat.mul_one]
  by_cases hroom : n + s.size ≤ cap
  ·have hcs' : cur.size = cap := by simpa using hcs
   have hr := Lib.run_append_room_stringF (P := Tryd.prog) w 49 9 ty 5 i Tryd.underlying49 Tryd.underlying9 hi hsize g n cap cur (0, 0) hg (by simp) s hroom (by omega)
   refine ⟨_, _, hr, ⟨hlen, .inr ⟨g, cap, _, rfl, hbg, setRow_heap w g cur _ 5 _ hg, hroom, hcm, ?_, ?_⟩⟩, ⟨rfl, rfl, rfl, by simp, fun k _ hk => setRow_other w g k _ (fun e => hk (by simp [Value.ownBlock, e]))⟩, fun k hk _ => hk⟩
   ·simp only [List.size_toArray, List.length_append, List.length_take, List.length_drop, Array.length_toList, Lib.strCells_length]
    omega
   ·have ht' : cur.toList.take n = xs := by simpa using htake
    rw [ht', ← hlen]
    exact List.take_left
  ·have holds : ∀ j u, xs[j]? = some u → w.cell? ((⟨g, 0, none⟩ : Addr).add j) = some u := hown.cells (g := g) rfl
   have hr := Lib.run_append_grow_string (P := Tryd.prog) w 49 9 ty 5 i (.int .u8 0) Tryd.underlying49 Tryd.underlying9 hi hz ⟨g, 0, none⟩ n cap xs (by rw [hsize]; simpa using hxl) holds s (by omega) (by omega) (by rw [hby]; exact growslice_fits (by omega) (by omega))
   have hge := grownCap_ge w (n + s.size) cap 5
   have hcm2 : grownCap w (n + s.size) cap 5 ≤ maxLen := grownCap_le_maxLen w (n + s.size) cap 5 h63
   refine ⟨_, _, hr, ⟨hlen, .inr ⟨w.heap.size, _, _, rfl, hB, heap_alloc_new w.drew _, hge, hcm2, ?_, ?_⟩⟩, ⟨rfl, rfl, rfl, by simp, fun k hk _ => heap_alloc_old w.drew _ hk⟩, fun k hk hlt => ?_⟩
   ·have hz1 : (Value.int IntKind.u8 0).cells.size = 1 := rfl
    simp only [Array.size_append, List.size_toArray, size_zeroCells, hz1, hxl, Lib.strCells_length]
    omega
   ·simp only [Array.toList_append, List.append_assoc]
    rw [← List.append_assoc, ← hlen]
    exact List.take_left
   ·obtain rfl : w.heap.size = k := Option.some.inj hk
    omega
def Wrote (B rb : Nat) (c0 c1 c2 : Value) (v : Value) (o x : ByteArray) (w w' : World) : Prop :=
 ∃ v', w'.heap[rb]? = some (.cells #[c0, c1, c2, .pointer (some ⟨rb, 3, none⟩), v'] 63 (0, 0)) ∧ w'.ownsRow B 5 1 v' (o ++ x).size (Lib.strCells (o ++ x)) ∧ Mv rb w w' v v'
theorem strCells_app (o x : ByteArray) : Lib.strCells (o ++ x) = Lib.strCells o ++ Lib.strCells x := by simp [Lib.strCells]
theorem Wrote.of {B rb : Nat} {c0 c1 c2 v v' : Value} {o x : ByteArray} {w w2 : World} {P : Value} (hne : v.ownBlock ≠ some rb) (hb : w.heap[rb]? = some (.cells #[c0, c1, c2, P, v] 63 (0, 0))) (hB : B ≤ rb) {w1 : World} (hb1 : w1.heap[rb]? = some (.cells #[c0, c1, c2, .pointer (some ⟨rb, 3, none⟩), v] 63 (0, 0))) (hm : Mv rb w w1 v v)
  (ho : w2.ownsRow B 5 1 v' (o.size + x.size) (Lib.strCells o ++ Lib.strCells x)) (hg : w1.grownBy w2 v.ownBlock) (hl : ∀ k, v'.ownBlock = some k → k < w1.heap.size → v.ownBlock = some k) : Wrote B rb c0 c1 c2 v o x w (w2.setCell ⟨rb, 4, none⟩ v') := by
 have hlt := (Array.getElem?_eq_some_iff.1 hb).1
 have hlt1 := (Array.getElem?_eq_some_iff.1 hb1).1
 have hb2 := (hg.block rb hlt1 (fun e => hne e.symm)).trans hb1
 have hv' : v'.ownBlock ≠ some rb := by
  intro e
  rcases ho.2 with ⟨rfl, _⟩ | ⟨g, cap, cur, rfl, _, hg, _⟩
  ·cases e
  ·obtain rfl : g = rb := Option.some.inj e
   rw [hg] at hb2
   injection hb2 with hb
   injection hb with _ hb _
   cases hb
 refine ⟨v', pset hb2 4 v', ?_, ?_⟩
 ·rw [strCells_app, ByteArray.size_append]
  exact own_kept ho (fun k hk => Below.heap_setCell w2 ⟨rb, 4, none⟩ _ k (fun e => hv' ((show k = rb from e) ▸ hk)))
 ·refine ⟨?_, fun k hk hlt => hl k hk (Nat.lt_of_lt_of_le hlt hm.ch.size)⟩
  exact (hm.ch.then_grown hg (fun i _ e => Or.inr e)).set (fun _ => Or.inl rfl) _
theorem wp_append_str {w : World} {ops : Array Oper} {rest : List Oper} {o : Oper} {a : Act} {Q : Exit → Act → World → Prop} (hgd : o.guard = none) (sl x : Operand)
  (ho : o.op = .call { callee := .builtin .append, args := #[sl, x], argTypes := #[49, 9] }) (B : Nat) (v : Value) (n : Nat) (xs : List Value) (hs : a.eval sl = v) (hown : w.ownsRow B 5 1 v n xs) (s : ByteArray) (hx : a.eval x = .string s) (hb : n + s.size ≤ 140737488355328) (hB : B ≤ w.heap.size)
  (h : ∀ v' w', w'.ownsRow B 5 1 v' (n + s.size) (xs ++ Lib.strCells s) → w.grownBy w' v.ownBlock → (∀ k, v'.ownBlock = some k → k < w.heap.size → v.ownBlock = some k) → wpList Tryd.prog ops Q rest (a.put o.dst v') w') : wpList Tryd.prog ops Q (o :: rest) a w := by
 refine wpList_plain hgd fun K hK => ?_
 obtain ⟨v', w', hr, h2, h3, h4⟩ := run_append_str_at (w := w) B o.type v n xs hown s hb hB
 unfold Oper.wp execOp
 simp only [ho, resolve, invoke, builtin, Sem.run_bind, Sem.run_pure, Result.andThen_ok, List.map_toArray, List.map_cons, List.map_nil, hs, hx, hr]
 exact hK _ _ (h v' w' h2 h3 h4)
set_option maxHeartbeats 2000000 in
set_option maxRecDepth 100000 in
theorem WriteString_calls (B rb : Nat) (c0 c1 c2 P v : Value) (o x : ByteArray) (w : World) (hb : w.heap[rb]? = some (.cells #[c0, c1, c2, P, v] 63 (0, 0))) (hp : P = .pointer none ∨ P = .pointer (some ⟨rb, 3, none⟩)) (hB : B ≤ rb) (hown : w.ownsRow B 5 1 v o.size (Lib.strCells o)) (hne : v.ownBlock ≠ some rb) (hlen : o.size + x.size ≤ 140737488355328) :
  Calls Tryd.prog 82 #[.pointer (some ⟨rb, 3, none⟩), .string x] w fun e w' => e = .returned (.tuple #[.int .i64 x.size, .nilIface]) ∧ Wrote B rb c0 c1 c2 v o x w w' := by
 have hcc : Calls Tryd.prog 85 #[.pointer (some ⟨rb, 3, none⟩)] w fun e w' => e = .returned (.tuple #[]) ∧ w'.heap[rb]? = some (.cells #[c0, c1, c2, .pointer (some ⟨rb, 3, none⟩), v] 63 (0, 0)) ∧ w'.ownsRow B 5 1 v o.size (Lib.strCells o) ∧ Mv rb w w' v v := by
  have g := pcell hb
  rcases hp with rfl | rfl
  ·refine (copyCheck_fresh rb w (g.1 3 _ rfl) (by simp [World.shape?, hb]) (g.2.1 3)).mono ?_
   rintro e w' ⟨rfl, rfl⟩
   exact ⟨rfl, pset hb 3 _, own_kept hown (fun k hk => Below.heap_setCell w ⟨rb, 3, none⟩ _ k (fun e => hne ((show k = rb from e) ▸ hk))), (Mv.refl rb w v).set 3 _⟩
  ·refine (copyCheck_used rb w (g.1 3 _ rfl)).mono ?_
   rintro e w' ⟨rfl, rfl⟩
   exact ⟨rfl, hb, hown, Mv.refl rb _ v⟩
 have H := yM hb
 have HN := yM hne
 have HC := yM hcc
 have HL := yM hlen
 have HB := yM hB
 clear hb hown hne hcc hlen hB hp
 go_enter Tryd.func82, Tryd.ntmps82
 go_wp2_with first
  | (go_at_call 85; refine HC.out.mono ?_; rintro e w1 ⟨rfl, hb1, ho1, hm⟩; have HB1 := yM hb1; have HO1 := yM ho1; have HM := yM hm; have g1 := pcell hb1; have c4 : w1.cell? ⟨rb, 4, none⟩ = some v := g1.1 4 _ rfl; have l1 := g1.2.2; clear g1 hb1 ho1 hm)
  | (at_builtin; refine wp_append_str rfl _ _ rfl B v o.size (Lib.strCells o) rfl HO1.out x rfl HL.out (by have := HB.out; have := (Array.getElem?_eq_some_iff.1 HB1.out).1; omega) ?_; intro v' w2 ho2 hg2 hl2; obtain ⟨A9, c9, e9⟩ := own_slice ho2; subst e9; have HW := yM (Wrote.of HN.out H.out HB.out HB1.out HM.out ho2 hg2 hl2); have hb2 := (hg2.block rb (Array.getElem?_eq_some_iff.1 HB1.out).1 (fun e => HN.out e.symm)).trans HB1.out; have g2 := pcell hb2; have f4 := g2.2.1 4; have d4 : w2.cell? ⟨rb, 4, none⟩ = some v := g2.1 4 _ rfl; have l2 := g2.2.2; clear ho2 hg2 hl2 hb2 g2 c4 l1)
 go_ret2
 exact ⟨rfl, HW.out⟩
end Go.Proofs.YtbpiahpkbapijaaDoor.J
end
section
namespace Go.Proofs.YtbpiahpkbapijaaDoor.J
open Go.RowKit Go.Proofs.YtbpiahpkbapijaaDoorW.PrintWords Go.Proofs.YtbpiahpkbapijaaDoorW.PrintLast Go.Proofs.YtbpiahpkbapijaaDoorW.PrintMore
set_option linter.unusedVariables false
set_option linter.unusedSimpArgs false
abbrev thrown (er at_ : Int) : Ending := .panicked [{ v := .iface 74 (.agg #[.int .i64 er, .int .i64 at_]), recovered := false }]
def PostJ {α : Type} (B rb : Nat) (t : ByteArray) (W : World) (v : Value) (ret : α → Value) (r : JR (α × JS)) (e : Ending) (w' : World) : Prop :=
 match r with
 | .ok (a, s) => e = .returned (ret a) ∧ ∃ v', Rd B rb t w' s v' ∧ Mv rb W w' v v'
 | .error x => e = thrown x.1 x.2 ∧ Ch (fun k => k = rb ∨ v.ownBlock = some k) W w'
theorem take_size (t : ByteArray) (a b : Nat) (h : a ≤ b) (hb : b ≤ t.size) : (t.extract a b).size = b - a := by rw [ByteArray.size_extract]; omega
theorem w64 (n : Int) (h : -9223372036854775808 ≤ n ∧ n ≤ 9223372036854775807) : wrap64 n = n := by unfold wrap64; omega
section
variable {P : Program} {ops : Array Oper} {Q : Exit → Act → World → Prop}
theorem goesP_ {oi : Oper} {N : Option Tmp} {a : Act} {w : World} {K : Act → World → Prop} {f : FuncId} {fn : Func} {asx : Array Operand} {ts : Array TypeId} (hf : P.funcs[f]? = some fn) (hname : (fn.name == "runtime.NumGoroutine") = false) (hb : fn.body.isSome = true) (args : Array Value)
  (hw : Region.wanted oi (yielded ops a.tmps) = true) (hN : oi.dst = N) (hop : oi.op = .call { callee := .value (.func f), args := asx, argTypes := ts }) (hargs : asx.map a.eval = args)
  (h : Calls P f args w fun e w' => (∃ v, e = .returned v ∧ K (a.put N v) w') ∨ (∃ c, e = .panicked c ∧ Q (.panic c) a w')) : if Region.wanted oi (yielded ops a.tmps) = true then Oper.wp P oi a w K Q else K (a.put N undef) w := by
 have he := enters_ hf hname hb args w
 have hrun : (execOp a.eval oi).run P w = .ok (.enter f args) w := by
  unfold execOp
  simp [hop, resolve, Deferred.ofValue, invoke, Act.eval, hargs, he]
 rw [if_pos hw]
 subst hN
 unfold Oper.wp
 rw [hrun, Oper.upon_enter]
 refine h.mono fun e w'' hh => ?_
 rcases hh with ⟨v, rfl, hk⟩ | ⟨c, rfl, hq⟩
 ·exact hk
 ·exact hq
end
set_option maxHeartbeats 4000000 in
set_option maxRecDepth 100000 in
theorem take_calls (B rb : Nat) (t : ByteArray) (n : Int) (s : JS) (v : Value) (W : World) (h : Rd B rb t W s v) (h0 : 0 ≤ n) (h1 : s.at_ + n ≤ (t.size : Int)) :
  Calls Tryd.prog 71 #[.pointer (some ⟨rb, 0, none⟩), .int .i64 n] W fun e w' => e = .returned (.string (t.extract s.at_.toNat (s.at_ + n).toNat)) ∧ ∃ v', Rd B rb t w' (Js.tk t n s) v' ∧ Mv rb W w' v v' := by
 have H := yM h
 obtain ⟨c0, c1, c2, fr, lt⟩ := h.at_
 have ht := h.ht
 have a0 := h.a0
 have a1 := h.a1
 have o := h.o
 have hx := take_size t s.at_.toNat (s.at_ + n).toNat (by omega) (by omega)
 clear h
 have e1 : wrap64 (s.at_ + n) = s.at_ + n := w64 _ (by omega)
 have E1 := yM e1
 have k1 : s.at_ ≤ s.at_ + n := by omega
 have HW := yM (show Calls Tryd.prog 82 #[.pointer (some ⟨rb, 3, none⟩), .string (t.extract s.at_.toNat (s.at_ + n).toNat)] W.drew fun e w' => e = .returned (.tuple #[.int .i64 (t.extract s.at_.toNat (s.at_ + n).toNat).size, .nilIface]) ∧ Wrote B rb (.string t) (.int .i64 s.at_) (.int .i64 s.op) v s.out (t.extract s.at_.toNat (s.at_ + n).toNat) W.drew w' by
  have H2 : Rd B rb t W.drew s v := H.out.fr
  obtain ⟨P, hp, hb⟩ := H2.blk
  exact WriteString_calls B rb _ _ _ P v s.out _ W.drew hb hp H2.base H2.own H2.ne (by rw [hx]; omega))
 have HX := yM hx
 have HH := yM (show 0 ≤ n ∧ s.at_ + n ≤ (t.size : Int) from ⟨h0, h1⟩)
 clear hx o
 go_enter Tryd.func71, Tryd.ntmps71
 go_wp2
 refine start_ (n := 16) (S := fun w' => w'.cell? ⟨rb, 0, none⟩ = some (.string t) ∧ w'.cell? ⟨rb, 1, none⟩ = some (.int .i64 s.at_)) (ds := []) #[false, false, false, false, false, false, false, false, false, false, false, false, false, false, false, false] (by kernel_rfl) rfl rfl ⟨(by simpa using c0), (by simpa using c1)⟩ (fun hHeld => ?_)
 refine pure_ (i := 0) (N := some 6) (v := ?_) (a' := ?_) #[true, false, false, false, false, false, false, false, false, false, false, false, false, false, false, false] rfl rfl (by kernel_rfl) (fun _ _ _ h => h) (Or.inl ⟨by rfl, ?_⟩) ?_ ?_
 rotate_left
 ·intro w'
  go_simp
  with_reducible rfl
 rotate_left
 ·simp only [Act.put, yX, yY, yZ, i64_w, i32_w]
  rfl
 refine pure_ (i := 1) (N := some 7) (v := ?_) (a' := ?_) #[true, true, false, false, false, false, false, false, false, false, false, false, false, false, false, false] rfl rfl (by kernel_rfl) (fun _ _ _ h => h) (Or.inl ⟨by rfl, ?_⟩) ?_ ?_
 rotate_left
 ·intro w'
  go_simp
  with_reducible rfl
 rotate_left
 ·simp only [Act.put, yX, yY, yZ, i64_w, i32_w]
  rfl
 refine pure_ (i := 2) (N := some 8) (v := ?_) (a' := ?_) #[true, true, true, false, false, false, false, false, false, false, false, false, false, false, false, false] rfl rfl (by kernel_rfl) (fun _ _ _ h => h) (Or.inl ⟨by rfl, ?_⟩) ?_ ?_
 rotate_left
 ·intro w'
  go_simp
  with_reducible rfl
 rotate_left
 ·simp only [Act.put, yX, yY, yZ, i64_w, i32_w]
  rfl
 refine pure_ (i := 4) (N := some 10) (v := ?_) (a' := ?_) #[true, true, true, false, true, false, false, false, false, false, false, false, false, false, false, false] rfl rfl (by kernel_rfl) (fun _ _ _ h => h) (Or.inl ⟨by rfl, ?_⟩) ?_ ?_
 rotate_left
 ·intro w'
  go_simp
  with_reducible rfl
 rotate_left
 ·simp only [Act.put, yX, yY, yZ, i64_w, i32_w]
  rfl
 refine pure_ (i := 5) (N := some 11) (v := ?_) (a' := ?_) #[true, true, true, false, true, true, false, false, false, false, false, false, false, false, false, false] rfl rfl (by kernel_rfl) (fun _ _ _ h => h) (Or.inl ⟨by rfl, ?_⟩) ?_ ?_
 rotate_left
 ·intro w'
  go_simp
  with_reducible rfl
 rotate_left
 ·simp only [Act.put, yX, yY, yZ, i64_w, i32_w]
  rfl
 refine pure_ (i := 6) (N := some 12) (v := ?_) (a' := ?_) #[true, true, true, false, true, true, true, false, false, false, false, false, false, false, false, false] rfl rfl (by kernel_rfl) (fun _ _ _ h => h) (Or.inl ⟨by rfl, ?_⟩) ?_ ?_
 rotate_left
 ·intro w'
  go_simp
  with_reducible rfl
 rotate_left
 ·simp only [Act.put, yX, yY, yZ, i64_w, i32_w]
  rfl
 refine pure_ (i := 8) (N := some 14) (v := ?_) (a' := ?_) #[true, true, true, false, true, true, true, false, true, false, false, false, false, false, false, false] rfl rfl (by kernel_rfl) (fun _ _ _ h => h) (Or.inl ⟨by rfl, ?_⟩) ?_ ?_
 rotate_left
 ·intro w'
  go_simp
  with_reducible rfl
 rotate_left
 ·simp only [Act.put, yX, yY, yZ, i64_w, i32_w]
  rfl
 refine pure_ (i := 9) (N := some 15) (v := ?_) (a' := ?_) #[true, true, true, false, true, true, true, false, true, true, false, false, false, false, false, false] rfl rfl (by kernel_rfl) (fun _ _ _ h => h) (Or.inl ⟨by rfl, ?_⟩) ?_ ?_
 rotate_left
 ·intro w'
  go_simp
  with_reducible rfl
 rotate_left
 ·simp only [Act.put, yX, yY, yZ, i64_w, i32_w]
  rfl
 refine pure_ (i := 10) (N := some 16) (v := ?_) (a' := ?_) #[true, true, true, false, true, true, true, false, true, true, true, false, false, false, false, false] rfl rfl (by kernel_rfl) (fun _ _ _ h => h) (Or.inl ⟨by rfl, ?_⟩) ?_ ?_
 rotate_left
 ·intro w'
  go_simp
  with_reducible rfl
 rotate_left
 ·simp only [Act.put, yX, yY, yZ, i64_w, i32_w]
  rfl
 refine pure_ (i := 12) (N := some 18) (v := ?_) (a' := ?_) #[true, true, true, false, true, true, true, false, true, true, true, false, true, false, false, false] rfl rfl (by kernel_rfl) (fun _ _ _ h => h) (Or.inl ⟨by rfl, ?_⟩) ?_ ?_
 rotate_left
 ·intro w'
  go_simp
  with_reducible rfl
 rotate_left
 ·simp only [Act.put, yX, yY, yZ, i64_w, i32_w]
  rfl
 refine take_ (i := 3) (N := some 9) (v := ?_) (a' := ?_) #[true, true, true, true, true, true, true, false, true, true, true, false, true, false, false, false] rfl rfl (by kernel_rfl) (fun _ _ _ h => h) (Or.inl ⟨by rfl, ?_⟩) hHeld ?_ ?_
 rotate_left
 ·rintro w' ⟨s0, s1⟩
  go_simp
  with_reducible rfl
 rotate_left
 ·simp only [Act.put, yX, yY, yZ, i64_w, i32_w]
  rfl
 refine take_ (i := 7) (N := some 13) (v := ?_) (a' := ?_) #[true, true, true, true, true, true, true, true, true, true, true, false, true, false, false, false] rfl rfl (by kernel_rfl) (fun _ _ _ h => h) (Or.inl ⟨by rfl, ?_⟩) hHeld ?_ ?_
 rotate_left
 ·rintro w' ⟨s0, s1⟩
  go_simp
  with_reducible rfl
 rotate_left
 ·simp only [Act.put, yX, yY, yZ, i64_w, i32_w]
  rfl
 refine take_ (i := 11) (N := some 17) (v := ?_) (a' := ?_) #[true, true, true, true, true, true, true, true, true, true, true, true, true, false, false, false] rfl rfl (by kernel_rfl) (fun _ _ _ h => h) (Or.inl ⟨by rfl, ?_⟩) hHeld ?_ ?_
 rotate_left
 ·rintro w' ⟨s0, s1⟩
  go_simp
  with_reducible rfl
 rotate_left
 ·simp only [Act.put, yX, yY, yZ, i64_w, i32_w]
  rfl
 refine pure_ (i := 13) (N := some 19) (v := ?_) (a' := ?_) #[true, true, true, true, true, true, true, true, true, true, true, true, true, true, false, false] rfl rfl (by kernel_rfl) (fun _ _ _ h => h) (Or.inl ⟨by rfl, ?_⟩) ?_ ?_
 rotate_left
 ·intro w'
  go_simp
  with_reducible rfl
 rotate_left
 ·simp only [Act.put, yX, yY, yZ, i64_w, i32_w]
  rfl
 refine pure_ (i := 14) (N := some 20) (v := ?_) (a' := ?_) #[true, true, true, true, true, true, true, true, true, true, true, true, true, true, true, false] rfl rfl (by kernel_rfl) (fun _ _ _ h => h) (Or.inl ⟨by rfl, ?_⟩) ?_ ?_
 rotate_left
 ·intro w'
  go_simp
  with_reducible rfl
 rotate_left
 ·simp only [Act.put, yX, yY, yZ, i64_w, i32_w]
  rfl
 refine pure_ (i := 15) (N := some 5) (v := ?_) (a' := ?_) #[true, true, true, true, true, true, true, true, true, true, true, true, true, true, true, true] rfl rfl (by kernel_rfl) (fun _ _ _ h => h) (Or.inl ⟨by rfl, ?_⟩) ?_ ?_
 rotate_left
 ·intro w'
  go_simp
  with_reducible rfl
 rotate_left
 ·simp only [Act.put, yX, yY, yZ, i64_w, i32_w]
  rfl
 refine done_ (by kernel_rfl) ?_
 go_wp2_with (go_at_call 82; refine HW.out.mono ?_; rintro e w1 ⟨rfl, v', hb, ho, hm⟩; have HB := yM hb; have HO := yM ho; have HM := yM hm; have g1 := pcell hb; have c1' : w1.cell? ⟨rb, 1, none⟩ = some (.int .i64 s.at_) := g1.1 1 _ rfl; have l1 := g1.2.2; have fr1 := g1.2.1 1; clear g1 hb ho hm)
 go_ret
 refine ⟨rfl, v', ?_, ?_⟩
 ·have h := H.out
  have hh := HH.out
  have hx := HX.out
  have hr : Rd B rb t w1 ⟨s.at_, s.op, s.out ++ t.extract s.at_.toNat (s.at_ + n).toNat⟩ v' ∨ True := Or.inr trivial
  have hb2 := pset HB.out 1 (.int .i64 (s.at_ + n))
  have hne : v'.ownBlock ≠ some rb := own_neq HO.out HB.out (by decide)
  have o := h.o
  exact ⟨⟨_, Or.inr rfl, hb2⟩, own_kept HO.out (fun k hk => Below.heap_setCell w1 ⟨rb, 1, none⟩ _ k (fun e => hne ((show k = rb from e) ▸ hk))), h.base, h.ht, by have := h.a0; show 0 ≤ s.at_ + n; omega, hh.2, by show ((s.out ++ t.extract s.at_.toNat (s.at_ + n).toNat).size : Int) ≤ s.at_ + n; rw [ByteArray.size_append, hx]; omega, h.p0, h.p1⟩
 ·exact (((Mv.refl rb W v).fr : Mv rb W W.drew v v).trans HM.out).set 1 _
set_option maxHeartbeats 4000000 in
set_option maxRecDepth 100000 in
theorem peek_calls (B rb : Nat) (t : ByteArray) (s : JS) (v : Value) (W : World) (h : Rd B rb t W s v) :
  Calls Tryd.prog 42 #[.pointer (some ⟨rb, 0, none⟩)] W (PostJ B rb t W v (fun c : Int => .int .u8 c) (Js.peek t s)) := by
 have HP := yM h
 have HM := yM (Mv.refl rb W v)
 clear h
 go_enter Tryd.func42, Tryd.ntmps42
 go_wp2
 go_loopg [] ((t.size : Int) - s.at_).toNat (fun kq w' => ∃ a : Int, Aside0 (Js.skip t a = Js.skip t s.at_ ∧ (t.size : Int) - a = kq) ∧ Aside0 (Rd B rb t w' ⟨a, s.op, s.out⟩ v) ∧ Aside0 (Mv rb W w' v v))
 case atStart => exact ⟨s.at_, ⟨rfl, by have := HP.out.a1; omega⟩, HP, HM⟩
 case round =>
  clear HP HM
  obtain ⟨a, HE, HP, HM⟩ := hrel
  obtain ⟨c0, c1, _, fr, lt⟩ := HP.out.at_
  replace c1 : wr.cell? ⟨rb, 1, none⟩ = some (.int .i64 a) := c1
  have fr1 := fr 1
  clear fr
  have p0 : 0 ≤ a := HP.out.a0
  have ht := HP.out.ht
  have hx := bt_at t a
  by_cases h1 : a < (t.size : Int)
  ·have b1 : decide (a < (t.size : Int)) = true := decide_eq_true h1
   have q0 := eq_true p0
   have q1 := eq_true h1
   by_cases h2 : Js.blank (bt t a) = true
   ·have b2 : decide (Lib.indexByte [32, 9, 10, 13] (bt t a).toNat.toUInt8 ≥ 0) = true := h2
    go_wp2
    refine start_ (n := 23) (S := fun w' => w'.cell? ⟨rb, 0, none⟩ = some (.string t) ∧ w'.cell? ⟨rb, 1, none⟩ = some (.int .i64 a)) (ds := []) #[false, false, false, false, false, false, false, false, false, false, false, false, false, false, false, false, false, false, false, false, false, false, false] (by kernel_rfl) rfl rfl ⟨(by simpa using c0), (by simpa using c1)⟩ (fun hHeld => ?_)
    refine pure_ (i := 0) (N := some 3) (v := ?_) (a' := ?_) #[true, false, false, false, false, false, false, false, false, false, false, false, false, false, false, false, false, false, false, false, false, false, false] rfl rfl (by kernel_rfl) (fun _ _ _ h => h) (Or.inl ⟨by rfl, ?_⟩) ?_ ?_
    rotate_left
    ·intro w'
     go_simp
     with_reducible rfl
    rotate_left
    ·simp only [Act.put, yX, yY, yZ, i64_w, i32_w]
     rfl
    refine pure_ (i := 1) (N := some 4) (v := ?_) (a' := ?_) #[true, true, false, false, false, false, false, false, false, false, false, false, false, false, false, false, false, false, false, false, false, false, false] rfl rfl (by kernel_rfl) (fun _ _ _ h => h) (Or.inl ⟨by rfl, ?_⟩) ?_ ?_
    rotate_left
    ·intro w'
     go_simp
     with_reducible rfl
    rotate_left
    ·simp only [Act.put, yX, yY, yZ, i64_w, i32_w]
     rfl
    refine pure_ (i := 2) (N := some 5) (v := ?_) (a' := ?_) #[true, true, true, false, false, false, false, false, false, false, false, false, false, false, false, false, false, false, false, false, false, false, false] rfl rfl (by kernel_rfl) (fun _ _ _ h => h) (Or.inl ⟨by rfl, ?_⟩) ?_ ?_
    rotate_left
    ·intro w'
     go_simp
     with_reducible rfl
    rotate_left
    ·simp only [Act.put, yX, yY, yZ, i64_w, i32_w]
     rfl
    refine pure_ (i := 4) (N := some 7) (v := ?_) (a' := ?_) #[true, true, true, false, true, false, false, false, false, false, false, false, false, false, false, false, false, false, false, false, false, false, false] rfl rfl (by kernel_rfl) (fun _ _ _ h => h) (Or.inl ⟨by rfl, ?_⟩) ?_ ?_
    rotate_left
    ·intro w'
     go_simp
     with_reducible rfl
    rotate_left
    ·simp only [Act.put, yX, yY, yZ, i64_w, i32_w]
     rfl
    refine pure_ (i := 5) (N := some 8) (v := ?_) (a' := ?_) #[true, true, true, false, true, true, false, false, false, false, false, false, false, false, false, false, false, false, false, false, false, false, false] rfl rfl (by kernel_rfl) (fun _ _ _ h => h) (Or.inl ⟨by rfl, ?_⟩) ?_ ?_
    rotate_left
    ·intro w'
     go_simp
     with_reducible rfl
    rotate_left
    ·simp only [Act.put, yX, yY, yZ, i64_w, i32_w]
     rfl
    refine pure_ (i := 6) (N := some 9) (v := ?_) (a' := ?_) #[true, true, true, false, true, true, true, false, false, false, false, false, false, false, false, false, false, false, false, false, false, false, false] rfl rfl (by kernel_rfl) (fun _ _ _ h => h) (Or.inl ⟨by rfl, ?_⟩) ?_ ?_
    rotate_left
    ·intro w'
     go_simp
     with_reducible rfl
    rotate_left
    ·simp only [Act.put, yX, yY, yZ, i64_w, i32_w]
     rfl
    refine take_ (i := 3) (N := some 6) (v := ?_) (a' := ?_) #[true, true, true, true, true, true, true, false, false, false, false, false, false, false, false, false, false, false, false, false, false, false, false] rfl rfl (by kernel_rfl) (fun _ _ _ h => h) (Or.inl ⟨by rfl, ?_⟩) hHeld ?_ ?_
    rotate_left
    ·rintro w' ⟨s0, s1⟩
     go_simp
     with_reducible rfl
    rotate_left
    ·simp only [Act.put, yX, yY, yZ, i64_w, i32_w]
     rfl
    refine take_ (i := 7) (N := some 10) (v := ?_) (a' := ?_) #[true, true, true, true, true, true, true, true, false, false, false, false, false, false, false, false, false, false, false, false, false, false, false] rfl rfl (by kernel_rfl) (fun _ _ _ h => h) (Or.inl ⟨by rfl, ?_⟩) hHeld ?_ ?_
    rotate_left
    ·rintro w' ⟨s0, s1⟩
     go_simp
     with_reducible rfl
    rotate_left
    ·simp only [Act.put, yX, yY, yZ, i64_w, i32_w]
     rfl
    refine pure_ (i := 8) (N := some 11) (v := ?_) (a' := ?_) #[true, true, true, true, true, true, true, true, true, false, false, false, false, false, false, false, false, false, false, false, false, false, false] rfl rfl (by kernel_rfl) (fun _ _ _ h => h) (Or.inl ⟨by rfl, ?_⟩) ?_ ?_
    rotate_left
    ·intro w'
     go_simp
     with_reducible rfl
    rotate_left
    ·simp only [Act.put, yX, yY, yZ, i64_w, i32_w]
     rfl
    refine pure_ (i := 9) (N := some 12) (v := ?_) (a' := ?_) #[true, true, true, true, true, true, true, true, true, true, false, false, false, false, false, false, false, false, false, false, false, false, false] rfl rfl (by kernel_rfl) (fun _ _ _ h => h) (Or.inl ⟨by rfl, ?_⟩) ?_ ?_
    rotate_left
    ·intro w'
     go_simp
     with_reducible rfl
    rotate_left
    ·simp only [Act.put, yX, yY, yZ, i64_w, i32_w]
     rfl
    refine pure_ (i := 10) (N := some 13) (v := ?_) (a' := ?_) #[true, true, true, true, true, true, true, true, true, true, true, false, false, false, false, false, false, false, false, false, false, false, false] rfl rfl (by kernel_rfl) (fun _ _ _ h => h) (Or.inl ⟨by rfl, ?_⟩) ?_ ?_
    rotate_left
    ·intro w'
     go_simp
     with_reducible rfl
    rotate_left
    ·simp only [Act.put, yX, yY, yZ, i64_w, i32_w]
     rfl
    refine pure_ (i := 11) (N := some 14) (v := ?_) (a' := ?_) #[true, true, true, true, true, true, true, true, true, true, true, true, false, false, false, false, false, false, false, false, false, false, false] rfl rfl (by kernel_rfl) (fun _ _ _ h => h) (Or.inl ⟨by rfl, ?_⟩) ?_ ?_
    rotate_left
    ·intro w'
     go_simp
     with_reducible rfl
    rotate_left
    ·simp only [Act.put, yX, yY, yZ, i64_w, i32_w]
     rfl
    refine pure_ (i := 12) (N := some 15) (v := ?_) (a' := ?_) #[true, true, true, true, true, true, true, true, true, true, true, true, true, false, false, false, false, false, false, false, false, false, false] rfl rfl (by kernel_rfl) (fun _ _ _ h => h) (Or.inl ⟨by rfl, ?_⟩) ?_ ?_
    rotate_left
    ·intro w'
     go_simp
     with_reducible rfl
    rotate_left
    ·simp only [Act.put, yX, yY, yZ, i64_w, i32_w]
     rfl
    refine pure_ (i := 13) (N := some 16) (v := ?_) (a' := ?_) #[true, true, true, true, true, true, true, true, true, true, true, true, true, true, false, false, false, false, false, false, false, false, false] rfl rfl (by kernel_rfl) (fun _ _ _ h => h) (Or.inl ⟨by rfl, ?_⟩) ?_ ?_
    rotate_left
    ·intro w'
     go_simp
     with_reducible rfl
    rotate_left
    ·simp only [Act.put, yX, yY, yZ, i64_w, i32_w]
     rfl
    refine pure_ (i := 15) (N := some 18) (v := ?_) (a' := ?_) #[true, true, true, true, true, true, true, true, true, true, true, true, true, true, false, true, false, false, false, false, false, false, false] rfl rfl (by kernel_rfl) (fun _ _ _ h => h) (Or.inl ⟨by rfl, ?_⟩) ?_ ?_
    rotate_left
    ·intro w'
     go_simp
     with_reducible rfl
    rotate_left
    ·simp only [Act.put, yX, yY, yZ, i64_w, i32_w]
     rfl
    refine pure_ (i := 16) (N := some 19) (v := ?_) (a' := ?_) #[true, true, true, true, true, true, true, true, true, true, true, true, true, true, false, true, true, false, false, false, false, false, false] rfl rfl (by kernel_rfl) (fun _ _ _ h => h) (Or.inl ⟨by rfl, ?_⟩) ?_ ?_
    rotate_left
    ·intro w'
     go_simp
     with_reducible rfl
    rotate_left
    ·simp only [Act.put, yX, yY, yZ, i64_w, i32_w]
     rfl
    refine pure_ (i := 17) (N := some 20) (v := ?_) (a' := ?_) #[true, true, true, true, true, true, true, true, true, true, true, true, true, true, false, true, true, true, false, false, false, false, false] rfl rfl (by kernel_rfl) (fun _ _ _ h => h) (Or.inl ⟨by rfl, ?_⟩) ?_ ?_
    rotate_left
    ·intro w'
     go_simp
     with_reducible rfl
    rotate_left
    ·simp only [Act.put, yX, yY, yZ, i64_w, i32_w]
     rfl
    refine take_ (i := 14) (N := some 17) (v := ?_) (a' := ?_) #[true, true, true, true, true, true, true, true, true, true, true, true, true, true, true, true, true, true, false, false, false, false, false] rfl rfl (by kernel_rfl) (fun _ _ _ h => h) (Or.inl ⟨by rfl, ?_⟩) hHeld ?_ ?_
    rotate_left
    ·rintro w' ⟨s0, s1⟩
     go_simp
     with_reducible rfl
    rotate_left
    ·simp only [Act.put, yX, yY, yZ, i64_w, i32_w]
     rfl
    refine take_ (i := 18) (N := some 21) (v := ?_) (a' := ?_) #[true, true, true, true, true, true, true, true, true, true, true, true, true, true, true, true, true, true, true, false, false, false, false] rfl rfl (by kernel_rfl) (fun _ _ _ h => h) (Or.inl ⟨by rfl, ?_⟩) hHeld ?_ ?_
    rotate_left
    ·rintro w' ⟨s0, s1⟩
     go_simp
     with_reducible rfl
    rotate_left
    ·simp only [Act.put, yX, yY, yZ, i64_w, i32_w]
     rfl
    refine take_ (i := 19) (N := some 22) (v := ?_) (a' := ?_) #[true, true, true, true, true, true, true, true, true, true, true, true, true, true, true, true, true, true, true, true, false, false, false] rfl rfl (by kernel_rfl) (fun _ _ _ h => h) (Or.inl ⟨by rfl, ?_⟩) hHeld ?_ ?_
    rotate_left
    ·rintro w' ⟨s0, s1⟩
     go_simp
     with_reducible rfl
    rotate_left
    ·simp only [Act.put, yX, yY, yZ, i64_w, i32_w]
     rfl
    refine one_ (i := 20) (N := some 23) #[true, true, true, true, true, true, true, true, true, true, true, true, true, true, true, true, true, true, true, true, true, false, false] rfl rfl (by kernel_rfl) (by decide) (fun K hK => ?_)
    refine goes_ Tryd.func29 (by kernel_rfl) rfl #[.string ⟨#[32, 9, 10, 13]⟩, .int .u8 (bt t a)] (by rfl) rfl rfl (by simp only [List.map_toArray, List.map_cons, List.map_nil]; rfl) ?_
    with_reducible refine (Tryd.strings_IndexByte _ _ _).mono ?_
    rintro e w3 ⟨rfl, rfl⟩
    refine ⟨_, rfl, ?_⟩
    refine hK.out _ _ ⟨hHeld.1, hHeld.2⟩ (fun hHeld => ?_)
    clear hK K
    refine norm_ (a' := ?_) ?_ ?_
    rotate_left
    ·show Act.put _ (some 23) _ = _
     simp only [Act.put, yX, yY, yZ, i64_w, i32_w]
     rfl
    refine pure_ (i := 21) (N := some 24) (v := ?_) (a' := ?_) #[true, true, true, true, true, true, true, true, true, true, true, true, true, true, true, true, true, true, true, true, true, true, false] rfl rfl (by kernel_rfl) (fun _ _ _ h => h) (Or.inl ⟨by rfl, ?_⟩) ?_ ?_
    rotate_left
    ·intro w'
     go_simp
     with_reducible rfl
    rotate_left
    ·simp only [Act.put, yX, yY, yZ, i64_w, i32_w]
     rfl
    refine pure_ (i := 22) (N := some 25) (v := ?_) (a' := ?_) #[true, true, true, true, true, true, true, true, true, true, true, true, true, true, true, true, true, true, true, true, true, true, true] rfl rfl (by kernel_rfl) (fun _ _ _ h => h) (Or.inl ⟨by rfl, ?_⟩) ?_ ?_
    rotate_left
    ·intro w'
     go_simp
     with_reducible rfl
    rotate_left
    ·simp only [Act.put, yX, yY, yZ, i64_w, i32_w]
     rfl
    refine done_ (by kernel_rfl) ?_
    cases gk with
    | zero => exact absurd HE.out.2 (by omega)
    | succ k1 =>
     go_wp2
     go_roundg k1
     case measure => omega
     case rel => exact ⟨a + 1, ⟨by have := HE.out.1; rw [Js.skip_eq, if_pos h1, if_pos h2] at this; exact this, by have := HE.out.2; omega⟩, ⟨(HP.out.set1 (a + 1) (by have := HP.out.o; show (s.out.size : Int) ≤ a + 1; exact Int.le_trans this (by show a ≤ a + 1; omega)) (by omega)).fr⟩, ⟨(HM.out.set 1 (.int .i64 (a + 1))).fr⟩⟩
   ·have b2 : decide (Lib.indexByte [32, 9, 10, 13] (bt t a).toNat.toUInt8 ≥ 0) = false := by simpa [Js.blank, Js.isIn] using h2
    go_wp2
    refine start_ (n := 23) (S := fun w' => w'.cell? ⟨rb, 0, none⟩ = some (.string t) ∧ w'.cell? ⟨rb, 1, none⟩ = some (.int .i64 a)) (ds := []) #[false, false, false, false, false, false, false, false, false, false, false, false, false, false, false, false, false, false, false, false, false, false, false] (by kernel_rfl) rfl rfl ⟨(by simpa using c0), (by simpa using c1)⟩ (fun hHeld => ?_)
    refine pure_ (i := 0) (N := some 3) (v := ?_) (a' := ?_) #[true, false, false, false, false, false, false, false, false, false, false, false, false, false, false, false, false, false, false, false, false, false, false] rfl rfl (by kernel_rfl) (fun _ _ _ h => h) (Or.inl ⟨by rfl, ?_⟩) ?_ ?_
    rotate_left
    ·intro w'
     go_simp
     with_reducible rfl
    rotate_left
    ·simp only [Act.put, yX, yY, yZ, i64_w, i32_w]
     rfl
    refine pure_ (i := 1) (N := some 4) (v := ?_) (a' := ?_) #[true, true, false, false, false, false, false, false, false, false, false, false, false, false, false, false, false, false, false, false, false, false, false] rfl rfl (by kernel_rfl) (fun _ _ _ h => h) (Or.inl ⟨by rfl, ?_⟩) ?_ ?_
    rotate_left
    ·intro w'
     go_simp
     with_reducible rfl
    rotate_left
    ·simp only [Act.put, yX, yY, yZ, i64_w, i32_w]
     rfl
    refine pure_ (i := 2) (N := some 5) (v := ?_) (a' := ?_) #[true, true, true, false, false, false, false, false, false, false, false, false, false, false, false, false, false, false, false, false, false, false, false] rfl rfl (by kernel_rfl) (fun _ _ _ h => h) (Or.inl ⟨by rfl, ?_⟩) ?_ ?_
    rotate_left
    ·intro w'
     go_simp
     with_reducible rfl
    rotate_left
    ·simp only [Act.put, yX, yY, yZ, i64_w, i32_w]
     rfl
    refine pure_ (i := 4) (N := some 7) (v := ?_) (a' := ?_) #[true, true, true, false, true, false, false, false, false, false, false, false, false, false, false, false, false, false, false, false, false, false, false] rfl rfl (by kernel_rfl) (fun _ _ _ h => h) (Or.inl ⟨by rfl, ?_⟩) ?_ ?_
    rotate_left
    ·intro w'
     go_simp
     with_reducible rfl
    rotate_left
    ·simp only [Act.put, yX, yY, yZ, i64_w, i32_w]
     rfl
    refine pure_ (i := 5) (N := some 8) (v := ?_) (a' := ?_) #[true, true, true, false, true, true, false, false, false, false, false, false, false, false, false, false, false, false, false, false, false, false, false] rfl rfl (by kernel_rfl) (fun _ _ _ h => h) (Or.inl ⟨by rfl, ?_⟩) ?_ ?_
    rotate_left
    ·intro w'
     go_simp
     with_reducible rfl
    rotate_left
    ·simp only [Act.put, yX, yY, yZ, i64_w, i32_w]
     rfl
    refine pure_ (i := 6) (N := some 9) (v := ?_) (a' := ?_) #[true, true, true, false, true, true, true, false, false, false, false, false, false, false, false, false, false, false, false, false, false, false, false] rfl rfl (by kernel_rfl) (fun _ _ _ h => h) (Or.inl ⟨by rfl, ?_⟩) ?_ ?_
    rotate_left
    ·intro w'
     go_simp
     with_reducible rfl
    rotate_left
    ·simp only [Act.put, yX, yY, yZ, i64_w, i32_w]
     rfl
    refine take_ (i := 3) (N := some 6) (v := ?_) (a' := ?_) #[true, true, true, true, true, true, true, false, false, false, false, false, false, false, false, false, false, false, false, false, false, false, false] rfl rfl (by kernel_rfl) (fun _ _ _ h => h) (Or.inl ⟨by rfl, ?_⟩) hHeld ?_ ?_
    rotate_left
    ·rintro w' ⟨s0, s1⟩
     go_simp
     with_reducible rfl
    rotate_left
    ·simp only [Act.put, yX, yY, yZ, i64_w, i32_w]
     rfl
    refine take_ (i := 7) (N := some 10) (v := ?_) (a' := ?_) #[true, true, true, true, true, true, true, true, false, false, false, false, false, false, false, false, false, false, false, false, false, false, false] rfl rfl (by kernel_rfl) (fun _ _ _ h => h) (Or.inl ⟨by rfl, ?_⟩) hHeld ?_ ?_
    rotate_left
    ·rintro w' ⟨s0, s1⟩
     go_simp
     with_reducible rfl
    rotate_left
    ·simp only [Act.put, yX, yY, yZ, i64_w, i32_w]
     rfl
    refine pure_ (i := 8) (N := some 11) (v := ?_) (a' := ?_) #[true, true, true, true, true, true, true, true, true, false, false, false, false, false, false, false, false, false, false, false, false, false, false] rfl rfl (by kernel_rfl) (fun _ _ _ h => h) (Or.inl ⟨by rfl, ?_⟩) ?_ ?_
    rotate_left
    ·intro w'
     go_simp
     with_reducible rfl
    rotate_left
    ·simp only [Act.put, yX, yY, yZ, i64_w, i32_w]
     rfl
    refine pure_ (i := 9) (N := some 12) (v := ?_) (a' := ?_) #[true, true, true, true, true, true, true, true, true, true, false, false, false, false, false, false, false, false, false, false, false, false, false] rfl rfl (by kernel_rfl) (fun _ _ _ h => h) (Or.inl ⟨by rfl, ?_⟩) ?_ ?_
    rotate_left
    ·intro w'
     go_simp
     with_reducible rfl
    rotate_left
    ·simp only [Act.put, yX, yY, yZ, i64_w, i32_w]
     rfl
    refine pure_ (i := 10) (N := some 13) (v := ?_) (a' := ?_) #[true, true, true, true, true, true, true, true, true, true, true, false, false, false, false, false, false, false, false, false, false, false, false] rfl rfl (by kernel_rfl) (fun _ _ _ h => h) (Or.inl ⟨by rfl, ?_⟩) ?_ ?_
    rotate_left
    ·intro w'
     go_simp
     with_reducible rfl
    rotate_left
    ·simp only [Act.put, yX, yY, yZ, i64_w, i32_w]
     rfl
    refine pure_ (i := 11) (N := some 14) (v := ?_) (a' := ?_) #[true, true, true, true, true, true, true, true, true, true, true, true, false, false, false, false, false, false, false, false, false, false, false] rfl rfl (by kernel_rfl) (fun _ _ _ h => h) (Or.inl ⟨by rfl, ?_⟩) ?_ ?_
    rotate_left
    ·intro w'
     go_simp
     with_reducible rfl
    rotate_left
    ·simp only [Act.put, yX, yY, yZ, i64_w, i32_w]
     rfl
    refine pure_ (i := 12) (N := some 15) (v := ?_) (a' := ?_) #[true, true, true, true, true, true, true, true, true, true, true, true, true, false, false, false, false, false, false, false, false, false, false] rfl rfl (by kernel_rfl) (fun _ _ _ h => h) (Or.inl ⟨by rfl, ?_⟩) ?_ ?_
    rotate_left
    ·intro w'
     go_simp
     with_reducible rfl
    rotate_left
    ·simp only [Act.put, yX, yY, yZ, i64_w, i32_w]
     rfl
    refine pure_ (i := 13) (N := some 16) (v := ?_) (a' := ?_) #[true, true, true, true, true, true, true, true, true, true, true, true, true, true, false, false, false, false, false, false, false, false, false] rfl rfl (by kernel_rfl) (fun _ _ _ h => h) (Or.inl ⟨by rfl, ?_⟩) ?_ ?_
    rotate_left
    ·intro w'
     go_simp
     with_reducible rfl
    rotate_left
    ·simp only [Act.put, yX, yY, yZ, i64_w, i32_w]
     rfl
    refine pure_ (i := 15) (N := some 18) (v := ?_) (a' := ?_) #[true, true, true, true, true, true, true, true, true, true, true, true, true, true, false, true, false, false, false, false, false, false, false] rfl rfl (by kernel_rfl) (fun _ _ _ h => h) (Or.inl ⟨by rfl, ?_⟩) ?_ ?_
    rotate_left
    ·intro w'
     go_simp
     with_reducible rfl
    rotate_left
    ·simp only [Act.put, yX, yY, yZ, i64_w, i32_w]
     rfl
    refine pure_ (i := 16) (N := some 19) (v := ?_) (a' := ?_) #[true, true, true, true, true, true, true, true, true, true, true, true, true, true, false, true, true, false, false, false, false, false, false] rfl rfl (by kernel_rfl) (fun _ _ _ h => h) (Or.inl ⟨by rfl, ?_⟩) ?_ ?_
    rotate_left
    ·intro w'
     go_simp
     with_reducible rfl
    rotate_left
    ·simp only [Act.put, yX, yY, yZ, i64_w, i32_w]
     rfl
    refine pure_ (i := 17) (N := some 20) (v := ?_) (a' := ?_) #[true, true, true, true, true, true, true, true, true, true, true, true, true, true, false, true, true, true, false, false, false, false, false] rfl rfl (by kernel_rfl) (fun _ _ _ h => h) (Or.inl ⟨by rfl, ?_⟩) ?_ ?_
    rotate_left
    ·intro w'
     go_simp
     with_reducible rfl
    rotate_left
    ·simp only [Act.put, yX, yY, yZ, i64_w, i32_w]
     rfl
    refine take_ (i := 14) (N := some 17) (v := ?_) (a' := ?_) #[true, true, true, true, true, true, true, true, true, true, true, true, true, true, true, true, true, true, false, false, false, false, false] rfl rfl (by kernel_rfl) (fun _ _ _ h => h) (Or.inl ⟨by rfl, ?_⟩) hHeld ?_ ?_
    rotate_left
    ·rintro w' ⟨s0, s1⟩
     go_simp
     with_reducible rfl
    rotate_left
    ·simp only [Act.put, yX, yY, yZ, i64_w, i32_w]
     rfl
    refine take_ (i := 18) (N := some 21) (v := ?_) (a' := ?_) #[true, true, true, true, true, true, true, true, true, true, true, true, true, true, true, true, true, true, true, false, false, false, false] rfl rfl (by kernel_rfl) (fun _ _ _ h => h) (Or.inl ⟨by rfl, ?_⟩) hHeld ?_ ?_
    rotate_left
    ·rintro w' ⟨s0, s1⟩
     go_simp
     with_reducible rfl
    rotate_left
    ·simp only [Act.put, yX, yY, yZ, i64_w, i32_w]
     rfl
    refine take_ (i := 19) (N := some 22) (v := ?_) (a' := ?_) #[true, true, true, true, true, true, true, true, true, true, true, true, true, true, true, true, true, true, true, true, false, false, false] rfl rfl (by kernel_rfl) (fun _ _ _ h => h) (Or.inl ⟨by rfl, ?_⟩) hHeld ?_ ?_
    rotate_left
    ·rintro w' ⟨s0, s1⟩
     go_simp
     with_reducible rfl
    rotate_left
    ·simp only [Act.put, yX, yY, yZ, i64_w, i32_w]
     rfl
    refine one_ (i := 20) (N := some 23) #[true, true, true, true, true, true, true, true, true, true, true, true, true, true, true, true, true, true, true, true, true, false, false] rfl rfl (by kernel_rfl) (by decide) (fun K hK => ?_)
    refine goes_ Tryd.func29 (by kernel_rfl) rfl #[.string ⟨#[32, 9, 10, 13]⟩, .int .u8 (bt t a)] (by rfl) rfl rfl (by simp only [List.map_toArray, List.map_cons, List.map_nil]; rfl) ?_
    with_reducible refine (Tryd.strings_IndexByte _ _ _).mono ?_
    rintro e w3 ⟨rfl, rfl⟩
    refine ⟨_, rfl, ?_⟩
    refine hK.out _ _ ⟨hHeld.1, hHeld.2⟩ (fun hHeld => ?_)
    clear hK K
    refine norm_ (a' := ?_) ?_ ?_
    rotate_left
    ·show Act.put _ (some 23) _ = _
     simp only [Act.put, yX, yY, yZ, i64_w, i32_w]
     rfl
    refine pure_ (i := 21) (N := some 24) (v := ?_) (a' := ?_) #[true, true, true, true, true, true, true, true, true, true, true, true, true, true, true, true, true, true, true, true, true, true, false] rfl rfl (by kernel_rfl) (fun _ _ _ h => h) (Or.inl ⟨by rfl, ?_⟩) ?_ ?_
    rotate_left
    ·intro w'
     go_simp
     with_reducible rfl
    rotate_left
    ·simp only [Act.put, yX, yY, yZ, i64_w, i32_w]
     rfl
    refine pure_ (i := 22) (N := some 25) (v := ?_) (a' := ?_) #[true, true, true, true, true, true, true, true, true, true, true, true, true, true, true, true, true, true, true, true, true, true, true] rfl rfl (by kernel_rfl) (fun _ _ _ h => h) (Or.inl ⟨by rfl, ?_⟩) ?_ ?_
    rotate_left
    ·intro w'
     go_simp
     with_reducible rfl
    rotate_left
    ·simp only [Act.put, yX, yY, yZ, i64_w, i32_w]
     rfl
    refine done_ (by kernel_rfl) ?_
    have b3 : (a == (t.size : Int)) = false := yB (by omega)
    go_wp2
    refine start_ (n := 10) (S := fun w' => w'.cell? ⟨rb, 0, none⟩ = some (.string t) ∧ w'.cell? ⟨rb, 1, none⟩ = some (.int .i64 a)) (ds := []) #[false, false, false, false, false, false, false, false, false, false] (by kernel_rfl) rfl rfl ⟨(by simpa using c0), (by simpa using c1)⟩ (fun hHeld => ?_)
    refine pure_ (i := 0) (N := some 33) (v := ?_) (a' := ?_) #[true, false, false, false, false, false, false, false, false, false] rfl rfl (by kernel_rfl) (fun _ _ _ h => h) (Or.inl ⟨by rfl, ?_⟩) ?_ ?_
    rotate_left
    ·intro w'
     go_simp
     with_reducible rfl
    rotate_left
    ·simp only [Act.put, yX, yY, yZ, i64_w, i32_w]
     rfl
    refine pure_ (i := 1) (N := some 34) (v := ?_) (a' := ?_) #[true, true, false, false, false, false, false, false, false, false] rfl rfl (by kernel_rfl) (fun _ _ _ h => h) (Or.inl ⟨by rfl, ?_⟩) ?_ ?_
    rotate_left
    ·intro w'
     go_simp
     with_reducible rfl
    rotate_left
    ·simp only [Act.put, yX, yY, yZ, i64_w, i32_w]
     rfl
    refine pure_ (i := 2) (N := some 35) (v := ?_) (a' := ?_) #[true, true, true, false, false, false, false, false, false, false] rfl rfl (by kernel_rfl) (fun _ _ _ h => h) (Or.inl ⟨by rfl, ?_⟩) ?_ ?_
    rotate_left
    ·intro w'
     go_simp
     with_reducible rfl
    rotate_left
    ·simp only [Act.put, yX, yY, yZ, i64_w, i32_w]
     rfl
    refine pure_ (i := 4) (N := some 37) (v := ?_) (a' := ?_) #[true, true, true, false, true, false, false, false, false, false] rfl rfl (by kernel_rfl) (fun _ _ _ h => h) (Or.inl ⟨by rfl, ?_⟩) ?_ ?_
    rotate_left
    ·intro w'
     go_simp
     with_reducible rfl
    rotate_left
    ·simp only [Act.put, yX, yY, yZ, i64_w, i32_w]
     rfl
    refine pure_ (i := 5) (N := some 38) (v := ?_) (a' := ?_) #[true, true, true, false, true, true, false, false, false, false] rfl rfl (by kernel_rfl) (fun _ _ _ h => h) (Or.inl ⟨by rfl, ?_⟩) ?_ ?_
    rotate_left
    ·intro w'
     go_simp
     with_reducible rfl
    rotate_left
    ·simp only [Act.put, yX, yY, yZ, i64_w, i32_w]
     rfl
    refine pure_ (i := 6) (N := some 39) (v := ?_) (a' := ?_) #[true, true, true, false, true, true, true, false, false, false] rfl rfl (by kernel_rfl) (fun _ _ _ h => h) (Or.inl ⟨by rfl, ?_⟩) ?_ ?_
    rotate_left
    ·intro w'
     go_simp
     with_reducible rfl
    rotate_left
    ·simp only [Act.put, yX, yY, yZ, i64_w, i32_w]
     rfl
    refine take_ (i := 3) (N := some 36) (v := ?_) (a' := ?_) #[true, true, true, true, true, true, true, false, false, false] rfl rfl (by kernel_rfl) (fun _ _ _ h => h) (Or.inl ⟨by rfl, ?_⟩) hHeld ?_ ?_
    rotate_left
    ·rintro w' ⟨s0, s1⟩
     go_simp
     with_reducible rfl
    rotate_left
    ·simp only [Act.put, yX, yY, yZ, i64_w, i32_w]
     rfl
    refine take_ (i := 7) (N := some 40) (v := ?_) (a' := ?_) #[true, true, true, true, true, true, true, true, false, false] rfl rfl (by kernel_rfl) (fun _ _ _ h => h) (Or.inl ⟨by rfl, ?_⟩) hHeld ?_ ?_
    rotate_left
    ·rintro w' ⟨s0, s1⟩
     go_simp
     with_reducible rfl
    rotate_left
    ·simp only [Act.put, yX, yY, yZ, i64_w, i32_w]
     rfl
    refine pure_ (i := 8) (N := some 41) (v := ?_) (a' := ?_) #[true, true, true, true, true, true, true, true, true, false] rfl rfl (by kernel_rfl) (fun _ _ _ h => h) (Or.inl ⟨by rfl, ?_⟩) ?_ ?_
    rotate_left
    ·intro w'
     go_simp
     with_reducible rfl
    rotate_left
    ·simp only [Act.put, yX, yY, yZ, i64_w, i32_w]
     rfl
    refine pure_ (i := 9) (N := some 42) (v := ?_) (a' := ?_) #[true, true, true, true, true, true, true, true, true, true] rfl rfl (by kernel_rfl) (fun _ _ _ h => h) (Or.inl ⟨by rfl, ?_⟩) ?_ ?_
    rotate_left
    ·intro w'
     go_simp
     with_reducible rfl
    rotate_left
    ·simp only [Act.put, yX, yY, yZ, i64_w, i32_w]
     rfl
    refine done_ (by kernel_rfl) ?_
    go_wp2
    refine start_ (n := 10) (S := fun w' => w'.cell? ⟨rb, 0, none⟩ = some (.string t) ∧ w'.cell? ⟨rb, 1, none⟩ = some (.int .i64 a)) (ds := []) #[false, false, false, false, false, false, false, false, false, false] (by kernel_rfl) rfl rfl ⟨(by simpa using c0), (by simpa using c1)⟩ (fun hHeld => ?_)
    refine pure_ (i := 0) (N := some 49) (v := ?_) (a' := ?_) #[true, false, false, false, false, false, false, false, false, false] rfl rfl (by kernel_rfl) (fun _ _ _ h => h) (Or.inl ⟨by rfl, ?_⟩) ?_ ?_
    rotate_left
    ·intro w'
     go_simp
     with_reducible rfl
    rotate_left
    ·simp only [Act.put, yX, yY, yZ, i64_w, i32_w]
     rfl
    refine pure_ (i := 1) (N := some 50) (v := ?_) (a' := ?_) #[true, true, false, false, false, false, false, false, false, false] rfl rfl (by kernel_rfl) (fun _ _ _ h => h) (Or.inl ⟨by rfl, ?_⟩) ?_ ?_
    rotate_left
    ·intro w'
     go_simp
     with_reducible rfl
    rotate_left
    ·simp only [Act.put, yX, yY, yZ, i64_w, i32_w]
     rfl
    refine pure_ (i := 2) (N := some 51) (v := ?_) (a' := ?_) #[true, true, true, false, false, false, false, false, false, false] rfl rfl (by kernel_rfl) (fun _ _ _ h => h) (Or.inl ⟨by rfl, ?_⟩) ?_ ?_
    rotate_left
    ·intro w'
     go_simp
     with_reducible rfl
    rotate_left
    ·simp only [Act.put, yX, yY, yZ, i64_w, i32_w]
     rfl
    refine pure_ (i := 4) (N := some 53) (v := ?_) (a' := ?_) #[true, true, true, false, true, false, false, false, false, false] rfl rfl (by kernel_rfl) (fun _ _ _ h => h) (Or.inl ⟨by rfl, ?_⟩) ?_ ?_
    rotate_left
    ·intro w'
     go_simp
     with_reducible rfl
    rotate_left
    ·simp only [Act.put, yX, yY, yZ, i64_w, i32_w]
     rfl
    refine pure_ (i := 5) (N := some 54) (v := ?_) (a' := ?_) #[true, true, true, false, true, true, false, false, false, false] rfl rfl (by kernel_rfl) (fun _ _ _ h => h) (Or.inl ⟨by rfl, ?_⟩) ?_ ?_
    rotate_left
    ·intro w'
     go_simp
     with_reducible rfl
    rotate_left
    ·simp only [Act.put, yX, yY, yZ, i64_w, i32_w]
     rfl
    refine pure_ (i := 6) (N := some 55) (v := ?_) (a' := ?_) #[true, true, true, false, true, true, true, false, false, false] rfl rfl (by kernel_rfl) (fun _ _ _ h => h) (Or.inl ⟨by rfl, ?_⟩) ?_ ?_
    rotate_left
    ·intro w'
     go_simp
     with_reducible rfl
    rotate_left
    ·simp only [Act.put, yX, yY, yZ, i64_w, i32_w]
     rfl
    refine take_ (i := 3) (N := some 52) (v := ?_) (a' := ?_) #[true, true, true, true, true, true, true, false, false, false] rfl rfl (by kernel_rfl) (fun _ _ _ h => h) (Or.inl ⟨by rfl, ?_⟩) hHeld ?_ ?_
    rotate_left
    ·rintro w' ⟨s0, s1⟩
     go_simp
     with_reducible rfl
    rotate_left
    ·simp only [Act.put, yX, yY, yZ, i64_w, i32_w]
     rfl
    refine take_ (i := 7) (N := some 56) (v := ?_) (a' := ?_) #[true, true, true, true, true, true, true, true, false, false] rfl rfl (by kernel_rfl) (fun _ _ _ h => h) (Or.inl ⟨by rfl, ?_⟩) hHeld ?_ ?_
    rotate_left
    ·rintro w' ⟨s0, s1⟩
     go_simp
     with_reducible rfl
    rotate_left
    ·simp only [Act.put, yX, yY, yZ, i64_w, i32_w]
     rfl
    refine take_ (i := 8) (N := some 57) (v := ?_) (a' := ?_) #[true, true, true, true, true, true, true, true, true, false] rfl rfl (by kernel_rfl) (fun _ _ _ h => h) (Or.inl ⟨by rfl, ?_⟩) hHeld ?_ ?_
    rotate_left
    ·rintro w' ⟨s0, s1⟩
     go_simp
     with_reducible rfl
    rotate_left
    ·simp only [Act.put, yX, yY, yZ, i64_w, i32_w]
     rfl
    refine pure_ (i := 9) (N := some 2) (v := ?_) (a' := ?_) #[true, true, true, true, true, true, true, true, true, true] rfl rfl (by kernel_rfl) (fun _ _ _ h => h) (Or.inl ⟨by rfl, ?_⟩) ?_ ?_
    rotate_left
    ·intro w'
     go_simp
     with_reducible rfl
    rotate_left
    ·simp only [Act.put, yX, yY, yZ, i64_w, i32_w]
     rfl
    refine done_ (by kernel_rfl) ?_
    go_wp2
    go_ret
    have hsk : Js.skip t s.at_ = a := by rw [← HE.out.1, Js.skip_eq, if_pos h1, if_neg h2]
    have hpk : Js.peek t s = .ok (bt t a, ⟨a, s.op, s.out⟩) := by unfold Js.peek; rw [hsk, if_neg (by omega)]
    rw [hpk]
    exact ⟨rfl, v, HP.out.fr, HM.out.fr⟩
  ·have b1 : decide (a < (t.size : Int)) = false := decide_eq_false h1
   go_wp2
   refine start_ (n := 23) (S := fun w' => w'.cell? ⟨rb, 0, none⟩ = some (.string t) ∧ w'.cell? ⟨rb, 1, none⟩ = some (.int .i64 a)) (ds := []) #[false, false, false, false, false, false, false, false, false, false, false, false, false, false, false, false, false, false, false, false, false, false, false] (by kernel_rfl) rfl rfl ⟨(by simpa using c0), (by simpa using c1)⟩ (fun hHeld => ?_)
   refine pure_ (i := 0) (N := some 3) (v := ?_) (a' := ?_) #[true, false, false, false, false, false, false, false, false, false, false, false, false, false, false, false, false, false, false, false, false, false, false] rfl rfl (by kernel_rfl) (fun _ _ _ h => h) (Or.inl ⟨by rfl, ?_⟩) ?_ ?_
   rotate_left
   ·intro w'
    go_simp
    with_reducible rfl
   rotate_left
   ·simp only [Act.put, yX, yY, yZ, i64_w, i32_w]
    rfl
   refine pure_ (i := 1) (N := some 4) (v := ?_) (a' := ?_) #[true, true, false, false, false, false, false, false, false, false, false, false, false, false, false, false, false, false, false, false, false, false, false] rfl rfl (by kernel_rfl) (fun _ _ _ h => h) (Or.inl ⟨by rfl, ?_⟩) ?_ ?_
   rotate_left
   ·intro w'
    go_simp
    with_reducible rfl
   rotate_left
   ·simp only [Act.put, yX, yY, yZ, i64_w, i32_w]
    rfl
   refine pure_ (i := 2) (N := some 5) (v := ?_) (a' := ?_) #[true, true, true, false, false, false, false, false, false, false, false, false, false, false, false, false, false, false, false, false, false, false, false] rfl rfl (by kernel_rfl) (fun _ _ _ h => h) (Or.inl ⟨by rfl, ?_⟩) ?_ ?_
   rotate_left
   ·intro w'
    go_simp
    with_reducible rfl
   rotate_left
   ·simp only [Act.put, yX, yY, yZ, i64_w, i32_w]
    rfl
   refine pure_ (i := 4) (N := some 7) (v := ?_) (a' := ?_) #[true, true, true, false, true, false, false, false, false, false, false, false, false, false, false, false, false, false, false, false, false, false, false] rfl rfl (by kernel_rfl) (fun _ _ _ h => h) (Or.inl ⟨by rfl, ?_⟩) ?_ ?_
   rotate_left
   ·intro w'
    go_simp
    with_reducible rfl
   rotate_left
   ·simp only [Act.put, yX, yY, yZ, i64_w, i32_w]
    rfl
   refine pure_ (i := 5) (N := some 8) (v := ?_) (a' := ?_) #[true, true, true, false, true, true, false, false, false, false, false, false, false, false, false, false, false, false, false, false, false, false, false] rfl rfl (by kernel_rfl) (fun _ _ _ h => h) (Or.inl ⟨by rfl, ?_⟩) ?_ ?_
   rotate_left
   ·intro w'
    go_simp
    with_reducible rfl
   rotate_left
   ·simp only [Act.put, yX, yY, yZ, i64_w, i32_w]
    rfl
   refine pure_ (i := 6) (N := some 9) (v := ?_) (a' := ?_) #[true, true, true, false, true, true, true, false, false, false, false, false, false, false, false, false, false, false, false, false, false, false, false] rfl rfl (by kernel_rfl) (fun _ _ _ h => h) (Or.inl ⟨by rfl, ?_⟩) ?_ ?_
   rotate_left
   ·intro w'
    go_simp
    with_reducible rfl
   rotate_left
   ·simp only [Act.put, yX, yY, yZ, i64_w, i32_w]
    rfl
   refine take_ (i := 3) (N := some 6) (v := ?_) (a' := ?_) #[true, true, true, true, true, true, true, false, false, false, false, false, false, false, false, false, false, false, false, false, false, false, false] rfl rfl (by kernel_rfl) (fun _ _ _ h => h) (Or.inl ⟨by rfl, ?_⟩) hHeld ?_ ?_
   rotate_left
   ·rintro w' ⟨s0, s1⟩
    go_simp
    with_reducible rfl
   rotate_left
   ·simp only [Act.put, yX, yY, yZ, i64_w, i32_w]
    rfl
   refine take_ (i := 7) (N := some 10) (v := ?_) (a' := ?_) #[true, true, true, true, true, true, true, true, false, false, false, false, false, false, false, false, false, false, false, false, false, false, false] rfl rfl (by kernel_rfl) (fun _ _ _ h => h) (Or.inl ⟨by rfl, ?_⟩) hHeld ?_ ?_
   rotate_left
   ·rintro w' ⟨s0, s1⟩
    go_simp
    with_reducible rfl
   rotate_left
   ·simp only [Act.put, yX, yY, yZ, i64_w, i32_w]
    rfl
   refine pure_ (i := 8) (N := some 11) (v := ?_) (a' := ?_) #[true, true, true, true, true, true, true, true, true, false, false, false, false, false, false, false, false, false, false, false, false, false, false] rfl rfl (by kernel_rfl) (fun _ _ _ h => h) (Or.inl ⟨by rfl, ?_⟩) ?_ ?_
   rotate_left
   ·intro w'
    go_simp
    with_reducible rfl
   rotate_left
   ·simp only [Act.put, yX, yY, yZ, i64_w, i32_w]
    rfl
   refine pure_ (i := 9) (N := some 12) (v := ?_) (a' := ?_) #[true, true, true, true, true, true, true, true, true, true, false, false, false, false, false, false, false, false, false, false, false, false, false] rfl rfl (by kernel_rfl) (fun _ _ _ h => h) (Or.inl ⟨by rfl, ?_⟩) ?_ ?_
   rotate_left
   ·intro w'
    go_simp
    with_reducible rfl
   rotate_left
   ·simp only [Act.put, yX, yY, yZ, i64_w, i32_w]
    rfl
   refine pure_ (i := 10) (N := some 13) (v := ?_) (a' := ?_) #[true, true, true, true, true, true, true, true, true, true, true, false, false, false, false, false, false, false, false, false, false, false, false] rfl rfl (by kernel_rfl) (fun _ _ _ h => h) (Or.inl ⟨by rfl, ?_⟩) ?_ ?_
   rotate_left
   ·intro w'
    go_simp
    with_reducible rfl
   rotate_left
   ·simp only [Act.put, yX, yY, yZ, i64_w, i32_w]
    rfl
   refine pure_ (i := 11) (N := some 14) (v := undef) (a' := ?_) #[true, true, true, true, true, true, true, true, true, true, true, true, false, false, false, false, false, false, false, false, false, false, false] rfl rfl (by kernel_rfl) (fun _ _ _ h => h) (Or.inr ⟨by rfl, rfl⟩) ?_ ?_
   rotate_left
   ·simp only [Act.put, yX, yY, yZ, i64_w, i32_w]
    rfl
   refine pure_ (i := 12) (N := some 15) (v := undef) (a' := ?_) #[true, true, true, true, true, true, true, true, true, true, true, true, true, false, false, false, false, false, false, false, false, false, false] rfl rfl (by kernel_rfl) (fun _ _ _ h => h) (Or.inr ⟨by rfl, rfl⟩) ?_ ?_
   rotate_left
   ·simp only [Act.put, yX, yY, yZ, i64_w, i32_w]
    rfl
   refine pure_ (i := 13) (N := some 16) (v := undef) (a' := ?_) #[true, true, true, true, true, true, true, true, true, true, true, true, true, true, false, false, false, false, false, false, false, false, false] rfl rfl (by kernel_rfl) (fun _ _ _ h => h) (Or.inr ⟨by rfl, rfl⟩) ?_ ?_
   rotate_left
   ·simp only [Act.put, yX, yY, yZ, i64_w, i32_w]
    rfl
   refine pure_ (i := 14) (N := some 17) (v := undef) (a' := ?_) #[true, true, true, true, true, true, true, true, true, true, true, true, true, true, true, false, false, false, false, false, false, false, false] rfl rfl (by kernel_rfl) (fun _ _ _ h => h) (Or.inr ⟨by rfl, rfl⟩) ?_ ?_
   rotate_left
   ·simp only [Act.put, yX, yY, yZ, i64_w, i32_w]
    rfl
   refine pure_ (i := 15) (N := some 18) (v := undef) (a' := ?_) #[true, true, true, true, true, true, true, true, true, true, true, true, true, true, true, true, false, false, false, false, false, false, false] rfl rfl (by kernel_rfl) (fun _ _ _ h => h) (Or.inr ⟨by rfl, rfl⟩) ?_ ?_
   rotate_left
   ·simp only [Act.put, yX, yY, yZ, i64_w, i32_w]
    rfl
   refine pure_ (i := 16) (N := some 19) (v := undef) (a' := ?_) #[true, true, true, true, true, true, true, true, true, true, true, true, true, true, true, true, true, false, false, false, false, false, false] rfl rfl (by kernel_rfl) (fun _ _ _ h => h) (Or.inr ⟨by rfl, rfl⟩) ?_ ?_
   rotate_left
   ·simp only [Act.put, yX, yY, yZ, i64_w, i32_w]
    rfl
   refine pure_ (i := 17) (N := some 20) (v := undef) (a' := ?_) #[true, true, true, true, true, true, true, true, true, true, true, true, true, true, true, true, true, true, false, false, false, false, false] rfl rfl (by kernel_rfl) (fun _ _ _ h => h) (Or.inr ⟨by rfl, rfl⟩) ?_ ?_
   rotate_left
   ·simp only [Act.put, yX, yY, yZ, i64_w, i32_w]
    rfl
   refine pure_ (i := 18) (N := some 21) (v := undef) (a' := ?_) #[true, true, true, true, true, true, true, true, true, true, true, true, true, true, true, true, true, true, true, false, false, false, false] rfl rfl (by kernel_rfl) (fun _ _ _ h => h) (Or.inr ⟨by rfl, rfl⟩) ?_ ?_
   rotate_left
   ·simp only [Act.put, yX, yY, yZ, i64_w, i32_w]
    rfl
   refine pure_ (i := 19) (N := some 22) (v := undef) (a' := ?_) #[true, true, true, true, true, true, true, true, true, true, true, true, true, true, true, true, true, true, true, true, false, false, false] rfl rfl (by kernel_rfl) (fun _ _ _ h => h) (Or.inr ⟨by rfl, rfl⟩) ?_ ?_
   rotate_left
   ·simp only [Act.put, yX, yY, yZ, i64_w, i32_w]
    rfl
   refine pure_ (i := 20) (N := some 23) (v := undef) (a' := ?_) #[true, true, true, true, true, true, true, true, true, true, true, true, true, true, true, true, true, true, true, true, true, false, false] rfl rfl (by kernel_rfl) (fun _ _ _ h => h) (Or.inr ⟨by rfl, rfl⟩) ?_ ?_
   rotate_left
   ·simp only [Act.put, yX, yY, yZ, i64_w, i32_w]
    rfl
   refine pure_ (i := 21) (N := some 24) (v := undef) (a' := ?_) #[true, true, true, true, true, true, true, true, true, true, true, true, true, true, true, true, true, true, true, true, true, true, false] rfl rfl (by kernel_rfl) (fun _ _ _ h => h) (Or.inr ⟨by rfl, rfl⟩) ?_ ?_
   rotate_left
   ·simp only [Act.put, yX, yY, yZ, i64_w, i32_w]
    rfl
   refine pure_ (i := 22) (N := some 25) (v := ?_) (a' := ?_) #[true, true, true, true, true, true, true, true, true, true, true, true, true, true, true, true, true, true, true, true, true, true, true] rfl rfl (by kernel_rfl) (fun _ _ _ h => h) (Or.inl ⟨by rfl, ?_⟩) ?_ ?_
   rotate_left
   ·intro w'
    go_simp
    with_reducible rfl
   rotate_left
   ·simp only [Act.put, yX, yY, yZ, i64_w, i32_w]
    rfl
   refine done_ (by kernel_rfl) ?_
   have b3 : (a == (t.size : Int)) = true := beq_iff_eq.mpr (by have := HP.out.a1; have : a ≤ (t.size : Int) := this; omega)
   go_wp2
   refine start_ (n := 10) (S := fun w' => w'.cell? ⟨rb, 0, none⟩ = some (.string t) ∧ w'.cell? ⟨rb, 1, none⟩ = some (.int .i64 a)) (ds := []) #[false, false, false, false, false, false, false, false, false, false] (by kernel_rfl) rfl rfl ⟨(by simpa using c0), (by simpa using c1)⟩ (fun hHeld => ?_)
   refine pure_ (i := 0) (N := some 33) (v := ?_) (a' := ?_) #[true, false, false, false, false, false, false, false, false, false] rfl rfl (by kernel_rfl) (fun _ _ _ h => h) (Or.inl ⟨by rfl, ?_⟩) ?_ ?_
   rotate_left
   ·intro w'
    go_simp
    with_reducible rfl
   rotate_left
   ·simp only [Act.put, yX, yY, yZ, i64_w, i32_w]
    rfl
   refine pure_ (i := 1) (N := some 34) (v := ?_) (a' := ?_) #[true, true, false, false, false, false, false, false, false, false] rfl rfl (by kernel_rfl) (fun _ _ _ h => h) (Or.inl ⟨by rfl, ?_⟩) ?_ ?_
   rotate_left
   ·intro w'
    go_simp
    with_reducible rfl
   rotate_left
   ·simp only [Act.put, yX, yY, yZ, i64_w, i32_w]
    rfl
   refine pure_ (i := 2) (N := some 35) (v := ?_) (a' := ?_) #[true, true, true, false, false, false, false, false, false, false] rfl rfl (by kernel_rfl) (fun _ _ _ h => h) (Or.inl ⟨by rfl, ?_⟩) ?_ ?_
   rotate_left
   ·intro w'
    go_simp
    with_reducible rfl
   rotate_left
   ·simp only [Act.put, yX, yY, yZ, i64_w, i32_w]
    rfl
   refine pure_ (i := 4) (N := some 37) (v := ?_) (a' := ?_) #[true, true, true, false, true, false, false, false, false, false] rfl rfl (by kernel_rfl) (fun _ _ _ h => h) (Or.inl ⟨by rfl, ?_⟩) ?_ ?_
   rotate_left
   ·intro w'
    go_simp
    with_reducible rfl
   rotate_left
   ·simp only [Act.put, yX, yY, yZ, i64_w, i32_w]
    rfl
   refine pure_ (i := 5) (N := some 38) (v := ?_) (a' := ?_) #[true, true, true, false, true, true, false, false, false, false] rfl rfl (by kernel_rfl) (fun _ _ _ h => h) (Or.inl ⟨by rfl, ?_⟩) ?_ ?_
   rotate_left
   ·intro w'
    go_simp
    with_reducible rfl
   rotate_left
   ·simp only [Act.put, yX, yY, yZ, i64_w, i32_w]
    rfl
   refine pure_ (i := 6) (N := some 39) (v := ?_) (a' := ?_) #[true, true, true, false, true, true, true, false, false, false] rfl rfl (by kernel_rfl) (fun _ _ _ h => h) (Or.inl ⟨by rfl, ?_⟩) ?_ ?_
   rotate_left
   ·intro w'
    go_simp
    with_reducible rfl
   rotate_left
   ·simp only [Act.put, yX, yY, yZ, i64_w, i32_w]
    rfl
   refine take_ (i := 3) (N := some 36) (v := ?_) (a' := ?_) #[true, true, true, true, true, true, true, false, false, false] rfl rfl (by kernel_rfl) (fun _ _ _ h => h) (Or.inl ⟨by rfl, ?_⟩) hHeld ?_ ?_
   rotate_left
   ·rintro w' ⟨s0, s1⟩
    go_simp
    with_reducible rfl
   rotate_left
   ·simp only [Act.put, yX, yY, yZ, i64_w, i32_w]
    rfl
   refine take_ (i := 7) (N := some 40) (v := ?_) (a' := ?_) #[true, true, true, true, true, true, true, true, false, false] rfl rfl (by kernel_rfl) (fun _ _ _ h => h) (Or.inl ⟨by rfl, ?_⟩) hHeld ?_ ?_
   rotate_left
   ·rintro w' ⟨s0, s1⟩
    go_simp
    with_reducible rfl
   rotate_left
   ·simp only [Act.put, yX, yY, yZ, i64_w, i32_w]
    rfl
   refine pure_ (i := 8) (N := some 41) (v := ?_) (a' := ?_) #[true, true, true, true, true, true, true, true, true, false] rfl rfl (by kernel_rfl) (fun _ _ _ h => h) (Or.inl ⟨by rfl, ?_⟩) ?_ ?_
   rotate_left
   ·intro w'
    go_simp
    with_reducible rfl
   rotate_left
   ·simp only [Act.put, yX, yY, yZ, i64_w, i32_w]
    rfl
   refine pure_ (i := 9) (N := some 42) (v := ?_) (a' := ?_) #[true, true, true, true, true, true, true, true, true, true] rfl rfl (by kernel_rfl) (fun _ _ _ h => h) (Or.inl ⟨by rfl, ?_⟩) ?_ ?_
   rotate_left
   ·intro w'
    go_simp
    with_reducible rfl
   rotate_left
   ·simp only [Act.put, yX, yY, yZ, i64_w, i32_w]
    rfl
   refine done_ (by kernel_rfl) ?_
   go_wp2
   refine ⟨rfl, ?_⟩
   have hsk : Js.skip t s.at_ = a := by rw [← HE.out.1, Js.skip_eq, if_neg (by omega)]
   have hpk : Js.peek t s = .error (120, (t.size : Int)) := by unfold Js.peek; rw [hsk, if_pos (eq_of_beq b3)]
   rw [hpk, ← eq_of_beq b3]
   exact ⟨rfl, HM.out.fr.ch⟩
end Go.Proofs.YtbpiahpkbapijaaDoor.J
end
section
namespace Go.Proofs.YtbpiahpkbapijaaDoor.J
open Go.RowKit Go.Proofs.YtbpiahpkbapijaaDoorW.PrintWords Go.Proofs.YtbpiahpkbapijaaDoorW.PrintLast Go.Proofs.YtbpiahpkbapijaaDoorW.PrintMore
set_option linter.unusedVariables false
set_option linter.unusedSimpArgs false
set_option maxHeartbeats 4000000 in
set_option maxRecDepth 100000 in
theorem sign_calls (B rb : Nat) (t : ByteArray) (l : ByteArray) (s : JS) (v : Value) (W : World) (h : Rd B rb t W s v) :
  Calls Tryd.prog 72 #[.pointer (some ⟨rb, 0, none⟩), .string l] W (PostJ B rb t W v (fun c : Int => .int .u8 c) (Js.sign t l s)) := by
 have HP := yM h
 have HC := yM (peek_calls B rb t s v W h)
 clear h
 unfold Js.sign
 rcases hp : Js.peek t s with x | ⟨c, s1⟩
 ·rw [hp] at HC
  dsimp only
  go_enter Tryd.func72, Tryd.ntmps72
  go_wp2_with (go_at_call 42; refine HC.out.mono ?_; rintro e w1 ⟨rfl, hc⟩; exact ⟨rfl, rfl, hc⟩)
 ·rw [hp] at HC
  dsimp only
  have hlt : s1.at_ + 1 ≤ (t.size : Int) := by
   unfold Js.peek at hp
   have hb := Js.skip_bound t _ s.at_ rfl HP.out.a1
   by_cases g : Js.skip t s.at_ = (t.size : Int)
   ·rw [if_pos g] at hp; cases hp
   ·rw [if_neg g] at hp
    injection hp with hp
    injection hp with _ hp
    subst hp
    show Js.skip t s.at_ + 1 ≤ _
    omega
  have HL := yM hlt
  have HI := yM (Tryd.strings_IndexByte l c)
  clear hlt
  by_cases hi : Js.isIn l c = true
  ·have hi2 := hi
   rw [if_pos hi]
   unfold Js.isIn at hi
   have b1 : decide (Lib.indexByte l.data.toList c.toNat.toUInt8 < 0) = false := decide_eq_false (by have := yQ hi; omega)
   clear hi hi2
   go_enter Tryd.func72, Tryd.ntmps72
   go_wp2_with first
    | (go_at_call 42; refine HC.out.mono ?_; rintro e w1 ⟨rfl, v1, hr, hm⟩; have HR := yM hr; have HM := yM hm; clear hr hm)
    | (go_at_call 29; refine (HI.out _).mono ?_; rintro e w2 ⟨rfl, rfl⟩)
    | (go_at_call 71; refine (take_calls B rb t 1 s1 v1 _ HR.out (by decide) HL.out).mono ?_; rintro e w2 ⟨rfl, v2, hr, hm⟩; have HR2 := yM hr; have HM2 := yM hm; clear hr hm)
   go_ret
   exact ⟨rfl, v2, HR2.out, HM.out.trans HM2.out⟩
  ·rw [if_neg hi]
   unfold Js.isIn at hi
   have b1 : decide (Lib.indexByte l.data.toList c.toNat.toUInt8 < 0) = true := decide_eq_true (by have := of_decide_eq_false (Bool.eq_false_iff.mpr hi); omega)
   clear hi
   go_enter Tryd.func72, Tryd.ntmps72
   go_wp2_with first
    | (go_at_call 42; refine HC.out.mono ?_; rintro e w1 ⟨rfl, v1, hr, hm⟩; have HR := yM hr; have HM := yM hm; obtain ⟨c0, c1, _, fr, lt⟩ := hr.at_; clear hr hm)
    | (go_at_call 29; refine (HI.out _).mono ?_; rintro e w2 ⟨rfl, rfl⟩)
   exact ⟨rfl, rfl, HM.out.ch⟩
set_option maxHeartbeats 4000000 in
set_option maxRecDepth 100000 in
theorem bracket_calls (B rb : Nat) (t : ByteArray) (s : JS) (v : Value) (W : World) (h : Rd B rb t W s v) (hl : s.at_ + 1 ≤ (t.size : Int)) :
  Calls Tryd.prog 70 #[.pointer (some ⟨rb, 0, none⟩)] W (PostJ B rb t W v (fun _ : Unit => .int .i64 s.at_) ((Js.bracket t s).map fun s => ((), s))) := by
 have HP := yM h
 have HL := yM hl
 obtain ⟨c0, c1, c2, fr, lt⟩ := h.at_
 have p0 := h.p0
 have p1 := h.p1
 have fr2 := fr 2
 clear h hl fr
 unfold Js.bracket
 by_cases g : s.op = 200
 ·rw [if_pos g]
  have b : (s.op == 200) = true := beq_iff_eq.mpr g
  clear g
  go_enter Tryd.func70, Tryd.ntmps70
  go_wp2
  exact ⟨rfl, rfl, Ch.refl _ _⟩
 ·rw [if_neg g]
  have b : (s.op == 200) = false := yB g
  have HS := yM (HP.out.set2 (s.op + 1) (by omega) (by omega))
  have HW := yM (take_calls B rb t 1 ⟨s.at_, s.op + 1, s.out⟩ v _ HS.out (by decide) HL.out)
  have e1 : wrap64 (s.op + 1) = s.op + 1 := w64 _ (by omega)
  clear g
  go_enter Tryd.func70, Tryd.ntmps70
  go_wp2_with (go_at_call 71; refine HW.out.mono ?_; rintro e w2 ⟨rfl, v2, hr, hm⟩; have HR2 := yM hr; have HM2 := yM hm; clear hr hm)
  go_ret
  exact ⟨rfl, v2, HR2.out, ((Mv.refl rb W v).set 2 _).trans HM2.out⟩
end Go.Proofs.YtbpiahpkbapijaaDoor.J
end
section
namespace Go.Proofs.YtbpiahpkbapijaaDoor.J
open Go.RowKit Go.Proofs.YtbpiahpkbapijaaDoorW.PrintWords Go.Proofs.YtbpiahpkbapijaaDoorW.PrintLast Go.Proofs.YtbpiahpkbapijaaDoorW.PrintMore
set_option linter.unusedVariables false
set_option linter.unusedSimpArgs false
theorem Rd.far {B rb g T : Nat} {t : ByteArray} {w w' : World} {s : JS} {v : Value} {cs : Array Value} (h : Rd B rb t w s v) (hc : Ch (· = g) w w') (hb : w.heap[g]? = some (.cells cs T (0, 0))) (hT : T ≠ 5) (hg : rb ≠ g) : Rd B rb t w' s v :=
 h.ch hc hg (fun k hk e => own_neq h.own hb hT (e ▸ hk))
theorem Mv.far {rb g : Nat} {W w w' : World} {v v' : Value} (h : Mv rb W w v v') (hc : Ch (· = g) w w') (hg : W.heap.size ≤ g) : Mv rb W w' v v' :=
 ⟨⟨hc.os.trans h.ch.os, hc.tape.trans h.ch.tape, hc.output.trans h.ch.output, Nat.le_trans h.ch.size hc.size, fun i hi hn => (hc.block i (Nat.lt_of_lt_of_le hi h.ch.size) (fun e => absurd hi (by rw [show i = g from e]; omega))).trans (h.ch.block i hi hn)⟩, h.own⟩
theorem Mv.box {rb : Nat} {W w : World} {v v' : Value} {cs : Array Value} {T : Nat} (h : Mv rb (W.alloc (.cells cs T)) w v v') (h1 : rb < W.heap.size) (h2 : ∀ k, v.ownBlock = some k → k < W.heap.size) : w.heap[W.heap.size]? = some (.cells cs T (0, 0)) :=
 box_ch h.ch (fun e => e.elim (fun e => by omega) (fun e => by have := h2 _ e; omega))
theorem vcells {w : World} {g : Nat} {a b c d e : Value} {T : Nat} (h : w.heap[g]? = some (.cells #[a, b, c, d, e] T (0, 0))) :
  w.cell? ⟨g, 0, none⟩ = some a ∧ w.cell? ⟨g, 1, none⟩ = some b ∧ w.cell? ⟨g, 2, none⟩ = some c ∧ w.cell? ⟨g, 3, none⟩ = some d ∧ w.cell? ⟨g, 4, none⟩ = some e ∧ (∀ j, w.frozen? ⟨g, j, none⟩ = false) ∧ g < w.heap.size :=
 have g := pcell h
 ⟨g.1 0 _ rfl, g.1 1 _ rfl, g.1 2 _ rfl, g.1 3 _ rfl, g.1 4 _ rfl, g.2.1, g.2.2⟩
def PostV (B rb : Nat) (t : ByteArray) (W : World) (v : Value) (r : JR JS) (e : Ending) (w' : World) : Prop :=
 match r with
 | .ok s => (∃ k a x A n c A2 n2 c2, e = .returned (.agg #[.int .i64 k, .int .i64 a, .string x, .slice A n c, .slice A2 n2 c2])) ∧ ∃ v', Rd B rb t w' s v' ∧ Mv rb W w' v v'
 | .error x => e = thrown x.1 x.2 ∧ Ch (fun k => k = rb ∨ v.ownBlock = some k) W w'
theorem ch5 (g : Nat) (w : World) (a b c d e : Value) : Ch (· = g) w (((((w.setCell ⟨g, 0, none⟩ a).setCell ⟨g, 1, none⟩ b).setCell ⟨g, 2, none⟩ c).setCell ⟨g, 3, none⟩ d).setCell ⟨g, 4, none⟩ e) :=
 (((((Ch.refl (fun k => k = g) w).set (fun _ => rfl) a).set (fun _ => rfl) b).set (fun _ => rfl) c).set (fun _ => rfl) d).set (fun _ => rfl) e
theorem ch_alloc {S : Nat → Prop} {W w : World} {o : Obj} (h : Ch S (W.alloc o) w) : Ch S W w := Ch.trans ((Ch.refl S W).alloc o) h
theorem box_done {B rb : Nat} {t : ByteArray} {W w1 : World} {s : JS} {v v1 : Value} {cs cs' : Array Value} {T T' : Nat} (h : Rd B rb t w1 s v1) (hm : Mv rb (W.alloc (.cells cs T)) w1 v v1) (hb : w1.heap[W.heap.size]? = some (.cells cs' T' (0, 0))) (hT : T' ≠ 5) (hlt : rb < W.heap.size) (a b c d e : Value) :
  ∃ v', Rd B rb t (((((w1.setCell ⟨W.heap.size, 0, none⟩ a).setCell ⟨W.heap.size, 1, none⟩ b).setCell ⟨W.heap.size, 2, none⟩ c).setCell ⟨W.heap.size, 3, none⟩ d).setCell ⟨W.heap.size, 4, none⟩ e) s v' ∧ Mv rb W (((((w1.setCell ⟨W.heap.size, 0, none⟩ a).setCell ⟨W.heap.size, 1, none⟩ b).setCell ⟨W.heap.size, 2, none⟩ c).setCell ⟨W.heap.size, 3, none⟩ d).setCell ⟨W.heap.size, 4, none⟩ e) v v' := by
 have hc := ch5 W.heap.size w1 a b c d e
 refine ⟨v1, h.far hc hb hT (Nat.ne_of_lt hlt), ?_⟩
 have h1 : Mv rb W w1 v v1 := ⟨ch_alloc hm.ch, fun k hk hl => hm.own k hk (by simp; omega)⟩
 exact h1.far hc (Nat.le_refl _)
set_option maxHeartbeats 4000000 in
set_option maxRecDepth 100000 in
theorem is_calls (B rb : Nat) (t : ByteArray) (a : Int) (l : ByteArray) (s : JS) (v : Value) (W : World) (h : Rd B rb t W s v) (h0 : 0 ≤ a) :
  Calls Tryd.prog 76 #[.pointer (some ⟨rb, 0, none⟩), .int .i64 a, .string l] W fun e w' => e = .returned (.bool (Js.is_ t a l)) ∧ w' = W := by
 obtain ⟨c0, _, _, fr, lt⟩ := h.at_
 have ht := h.ht
 clear h fr
 have HI := yM (Tryd.strings_IndexByte l (bt t a))
 have hx := bt_at t a
 unfold Js.is_ Js.isIn
 by_cases h1 : a < (t.size : Int)
 ·have b1 : decide (a < (t.size : Int)) = true := decide_eq_true h1
  have q0 := eq_true h0
  have q1 := eq_true h1
  rw [b1, Bool.true_and]
  go_enter Tryd.func76, Tryd.ntmps76
  go_wp2_with (go_at_call 29; refine (HI.out _).mono ?_; rintro e w2 ⟨rfl, rfl⟩)
  go_ret
  exact ⟨rfl, rfl⟩
 ·have b1 : decide (a < (t.size : Int)) = false := decide_eq_false h1
  rw [b1, Bool.false_and]
  go_enter Tryd.func76, Tryd.ntmps76
  go_wp2
  go_ret
  exact ⟨rfl, rfl⟩
set_option maxHeartbeats 4000000 in
set_option maxRecDepth 100000 in
theorem digits_calls (B rb : Nat) (t : ByteArray) (a : Int) (s : JS) (v : Value) (W : World) (h : Rd B rb t W s v) (h0 : 0 ≤ a) (ha : a ≤ (t.size : Int)) :
  Calls Tryd.prog 77 #[.pointer (some ⟨rb, 0, none⟩), .int .i64 a] W fun e w' => e = .returned (.int .i64 (Js.run t a - a)) ∧ w' = W := by
 obtain ⟨c0, _, _, fr, lt⟩ := h.at_
 have ht := h.ht
 clear h fr
 go_enter Tryd.func77, Tryd.ntmps77
 go_wp2
 go_loopg [5] ((t.size : Int) - a).toNat (fun kq v5 w' => ∃ n : Int, v5 = .int .i64 n ∧ Aside0 (0 ≤ n ∧ Js.run t (a + n) = Js.run t a ∧ (t.size : Int) - (a + n) = kq) ∧ Aside0 (w' = W))
 case atStart => exact ⟨0, rfl, ⟨by decide, by rw [Int.add_zero], by omega⟩, ⟨rfl⟩⟩
 case round =>
  obtain ⟨n, rfl, HE, HW⟩ := hrel
  obtain rfl := HW.out
  obtain ⟨n0, hr, hm⟩ := HE.out
  have hx := bt_at t (a + n)
  have e1 : wrap64 (a + n) = a + n := w64 _ (by omega)
  have e2 : wrap64 (n + 1) = n + 1 := w64 _ (by omega)
  rw [Js.run_eq] at hr
  have HR := yM hr
  clear hr
  have p0 : 0 ≤ a + n := by omega
  by_cases h1 : a + n < (t.size : Int)
  ·have b1 : decide (a + n < (t.size : Int)) = true := decide_eq_true h1
   have q0 := eq_true p0
   have q1 := eq_true h1
   by_cases h2 : 48 ≤ bt t (a + n)
   ·by_cases h3 : bt t (a + n) ≤ 57
    ·have b2 : decide (bt t (a + n) ≥ 48) = true := decide_eq_true h2
     have b3 : decide (bt t (a + n) ≤ 57) = true := decide_eq_true h3
     have hr := HR.out
     rw [if_pos h1, if_pos (by unfold Js.digit; rw [decide_eq_true h2, decide_eq_true h3]; rfl)] at hr
     have HR2 := yM hr
     clear hr h2 h3
     cases gk with
     | zero => exact absurd hm (by omega)
     | succ k1 =>
      go_wp2
      go_roundg k1
      case measure => omega
      case rel => exact ⟨n + 1, rfl, ⟨by omega, by rw [← Int.add_assoc]; exact HR2.out, by omega⟩, ⟨rfl⟩⟩
    ·have b2 : decide (bt t (a + n) ≥ 48) = true := decide_eq_true h2
     have b3 : decide (bt t (a + n) ≤ 57) = false := decide_eq_false h3
     have hr := HR.out
     rw [if_pos h1, if_neg (by unfold Js.digit; rw [decide_eq_true h2, decide_eq_false h3]; decide)] at hr
     have HR2 := yM hr
     clear hr h2 h3
     go_wp2
     go_ret
     exact ⟨congrArg (fun z => Ending.returned (.int .i64 z)) (show n = Js.run t a - a by have := HR2.out; omega), rfl⟩
   ·have b2 : decide (bt t (a + n) ≥ 48) = false := decide_eq_false h2
    have hr := HR.out
    rw [if_pos h1, if_neg (by unfold Js.digit; rw [decide_eq_false h2, Bool.false_and]; exact Bool.false_ne_true)] at hr
    have HR2 := yM hr
    clear hr h2
    go_wp2
    go_ret
    exact ⟨congrArg (fun z => Ending.returned (.int .i64 z)) (show n = Js.run t a - a by have := HR2.out; omega), rfl⟩
  ·have b1 : decide (a + n < (t.size : Int)) = false := decide_eq_false h1
   have hr := HR.out
   rw [if_neg h1] at hr
   have HR2 := yM hr
   clear hr
   go_wp2
   go_ret
   exact ⟨congrArg (fun z => Ending.returned (.int .i64 z)) (show n = Js.run t a - a by have := HR2.out; omega), rfl⟩
set_option maxHeartbeats 4000000 in
set_option maxRecDepth 100000 in
theorem number_calls (B rb : Nat) (t : ByteArray) (s : JS) (v : Value) (W : World) (h : Rd B rb t W s v) (hl : s.at_ < (t.size : Int)) :
  Calls Tryd.prog 61 #[.pointer (some ⟨rb, 0, none⟩)] W (PostV B rb t W v (Js.number t s)) := by
 have HP := yM (show Rd B rb t (W.alloc (.cells #[.int .i64 0, .int .i64 0, .string ⟨#[]⟩, .slice none 0 0, .slice none 0 0] 56)) s v from h.fr)
 have HR0 := yM h
 obtain ⟨c0, c1, _, fr, lt⟩ := HP.out.at_
 have ht := h.ht
 have a0 := h.a0
 clear h fr
 have hlW := HR0.out.lt
 have hne : W.heap.size ≠ rb := by omega
 have hne2 : rb ≠ W.heap.size := by omega
 obtain ⟨r, hr⟩ : ∃ r, r = Js.number t s := ⟨_, rfl⟩
 rw [← hr]
 unfold Js.number at hr
 obtain ⟨b, hb⟩ : ∃ b, b = Js.numA t s.at_ := ⟨_, rfl⟩
 have hb0 : s.at_ ≤ b ∧ b ≤ s.at_ + 1 := by rw [hb]; unfold Js.numA; split <;> omega
 rw [← hb] at hr
 have hb1 : b ≤ (t.size : Int) := by omega
 have HB := yM hb
 have HR := yM hr
 clear hb hr
 have rb1 := Js.run_bound t _ b rfl
 obtain ⟨m, hm⟩ : ∃ m, m = Js.run t b := ⟨_, rfl⟩
 rw [← hm] at rb1 HR
 have HM := yM hm
 clear hm
 have e1 : wrap64 (s.at_ + 1) = s.at_ + 1 := w64 _ (by omega)
 go_enter Tryd.func61, Tryd.ntmps61
 go_wp2
 refine start_ (n := 10) (S := fun w' => w'.cell? ⟨rb, 1, none⟩ = some (.int .i64 s.at_)) (ds := []) #[false, false, false, false, false, false, false, false, false, false] (by kernel_rfl) rfl rfl ((by simpa using c1)) (fun hHeld => ?_)
 refine pure_ (i := 0) (N := some 9) (v := ?_) (a' := ?_) #[true, false, false, false, false, false, false, false, false, false] rfl rfl (by kernel_rfl) (fun _ _ _ h => h) (Or.inl ⟨by rfl, ?_⟩) ?_ ?_
 rotate_left
 ·intro w'
  go_simp
  with_reducible rfl
 rotate_left
 ·simp only [Act.put, yX, yY, yZ, i64_w, i32_w]
  rfl
 refine pure_ (i := 1) (N := some 10) (v := ?_) (a' := ?_) #[true, true, false, false, false, false, false, false, false, false] rfl rfl (by kernel_rfl) (fun _ _ _ h => h) (Or.inl ⟨by rfl, ?_⟩) ?_ ?_
 rotate_left
 ·intro w'
  go_simp
  with_reducible rfl
 rotate_left
 ·simp only [Act.put, yX, yY, yZ, i64_w, i32_w]
  rfl
 refine pure_ (i := 2) (N := some 11) (v := ?_) (a' := ?_) #[true, true, true, false, false, false, false, false, false, false] rfl rfl (by kernel_rfl) (fun _ _ _ h => h) (Or.inl ⟨by rfl, ?_⟩) ?_ ?_
 rotate_left
 ·intro w'
  go_simp
  with_reducible rfl
 rotate_left
 ·simp only [Act.put, yX, yY, yZ, i64_w, i32_w]
  rfl
 refine pure_ (i := 4) (N := some 13) (v := ?_) (a' := ?_) #[true, true, true, false, true, false, false, false, false, false] rfl rfl (by kernel_rfl) (fun _ _ _ h => h) (Or.inl ⟨by rfl, ?_⟩) ?_ ?_
 rotate_left
 ·intro w'
  go_simp
  with_reducible rfl
 rotate_left
 ·simp only [Act.put, yX, yY, yZ, i64_w, i32_w]
  rfl
 refine pure_ (i := 5) (N := some 14) (v := ?_) (a' := ?_) #[true, true, true, false, true, true, false, false, false, false] rfl rfl (by kernel_rfl) (fun _ _ _ h => h) (Or.inl ⟨by rfl, ?_⟩) ?_ ?_
 rotate_left
 ·intro w'
  go_simp
  with_reducible rfl
 rotate_left
 ·simp only [Act.put, yX, yY, yZ, i64_w, i32_w]
  rfl
 refine pure_ (i := 6) (N := some 15) (v := ?_) (a' := ?_) #[true, true, true, false, true, true, true, false, false, false] rfl rfl (by kernel_rfl) (fun _ _ _ h => h) (Or.inl ⟨by rfl, ?_⟩) ?_ ?_
 rotate_left
 ·intro w'
  go_simp
  with_reducible rfl
 rotate_left
 ·simp only [Act.put, yX, yY, yZ, i64_w, i32_w]
  rfl
 refine take_ (i := 3) (N := some 12) (v := ?_) (a' := ?_) #[true, true, true, true, true, true, true, false, false, false] rfl rfl (by kernel_rfl) (fun _ _ _ h => h) (Or.inl ⟨by rfl, ?_⟩) hHeld ?_ ?_
 rotate_left
 ·intro w' s0
  go_simp
  with_reducible rfl
 rotate_left
 ·simp only [Act.put, yX, yY, yZ, i64_w, i32_w]
  rfl
 refine pure_ (i := 8) (N := some 3) (v := ?_) (a' := ?_) #[true, true, true, true, true, true, true, false, true, false] rfl rfl (by kernel_rfl) (fun _ _ _ h => h) (Or.inl ⟨by rfl, ?_⟩) ?_ ?_
 rotate_left
 ·intro w'
  go_simp
  with_reducible rfl
 rotate_left
 ·simp only [Act.put, yX, yY, yZ, i64_w, i32_w]
  rfl
 refine take_ (i := 7) (N := some 16) (v := ?_) (a' := ?_) #[true, true, true, true, true, true, true, true, true, false] rfl rfl (by kernel_rfl) (fun _ _ _ h => h) (Or.inl ⟨by rfl, ?_⟩) hHeld ?_ ?_
 rotate_left
 ·intro w' s0
  go_simp
  with_reducible rfl
 rotate_left
 ·simp only [Act.put, yX, yY, yZ, i64_w, i32_w]
  rfl
 refine pure_ (i := 9) (N := some 4) (v := ?_) (a' := ?_) #[true, true, true, true, true, true, true, true, true, true] rfl rfl (by kernel_rfl) (fun _ _ _ h => h) (Or.inl ⟨by rfl, ?_⟩) ?_ ?_
 rotate_left
 ·intro w'
  go_simp
  with_reducible rfl
 rotate_left
 ·simp only [Act.put, yX, yY, yZ, i64_w, i32_w]
  rfl
 refine done_ (by kernel_rfl) ?_
 go_upto_if 19 with (go_at_call 76; refine (is_calls B rb t s.at_ _ s v _ HP.out.fr a0).mono ?_; rintro e w1 ⟨rfl, rfl⟩)
 go_cut [4] (fun v4 wc => v4 = .int .i64 b ∧ Aside0 (wc = (W.alloc (.cells #[.int .i64 0, .int .i64 0, .string ⟨#[]⟩, .slice none 0 0, .slice none 0 0] 56)).drew))
 case first =>
  have hb := HB.out
  unfold Js.numA at hb
  by_cases g : Js.is_ t s.at_ ⟨#[45]⟩ = true
  ·rw [if_pos g] at hb
   rw [g]
   subst hb
   go_wp2
   go_meet
   case rel => exact ⟨rfl, ⟨rfl⟩⟩
  ·rw [if_neg g] at hb
   rw [Bool.eq_false_iff.mpr g]
   subst hb
   go_wp2
   go_meet
   case rel => exact ⟨rfl, ⟨rfl⟩⟩
 case rest =>
  obtain ⟨rfl, HWc⟩ := hcut
  obtain rfl := HWc.out
  clear HWc e1
  go_upto_block 0 with (go_at_call 77; refine (digits_calls B rb t b s v _ HP.out.fr (by omega) hb1).mono ?_; rintro e w1 ⟨rfl, rfl⟩; rw [← HM.out])
  by_cases g0 : m - b = 0
  ·have k0 : (m - b == 0) = true := beq_iff_eq.mpr g0
   have hr := HR.out
   rw [if_pos g0] at hr
   subst hr
   clear g0
   go_wp2
   exact ⟨rfl, rfl, (((Ch.refl _ W).alloc (.cells #[.int .i64 0, .int .i64 0, .string ⟨#[]⟩, .slice none 0 0, .slice none 0 0] 56)).drew)⟩
  ·have k0 : (m - b == 0) = false := yB g0
   have hr := HR.out
   rw [if_neg g0] at hr
   have HR := yM hr
   clear hr
   have hbl : b < (t.size : Int) := by have := rb1.1; have := rb1.2 hb1; omega
   have hms : m ≤ (t.size : Int) := rb1.2 hb1
   obtain ⟨z, hz⟩ : ∃ z, z = Js.numZ t b := ⟨_, rfl⟩
   have hz1 : b ≤ z ∧ z ≤ (t.size : Int) := by
    rw [hz]
    unfold Js.numZ
    rw [← HM.out]
    split <;> omega
   have hr := HR.out
   rw [← hz] at hr
   have HR := yM hr
   have HZ := yM hz
   clear hr hz g0
   have hx := bt_at t b
   have q0 := eq_true (show 0 ≤ b by omega)
   have q1 := eq_true hbl
   go_cut [4] (fun v4 wc => v4 = .int .i64 z ∧ Aside0 (wc = (W.alloc (.cells #[.int .i64 0, .int .i64 0, .string ⟨#[]⟩, .slice none 0 0, .slice none 0 0] 56)).drew))
   case first =>
    have hz := HZ.out
    unfold Js.numZ at hz
    rw [← HM.out] at hz
    by_cases g : bt t b = 48
    ·have k1 : (bt t b == 48) = true := beq_iff_eq.mpr g
     rw [if_pos g] at hz
     subst hz
     have e2 : wrap64 (b + 1) = b + 1 := w64 _ (by omega)
     clear g
     go_wp2
     go_meet
     case rel => exact ⟨rfl, ⟨rfl⟩⟩
    ·have k1 : (bt t b == 48) = false := yB g
     rw [if_neg g] at hz
     subst hz
     have e2 : wrap64 (b + (m - b)) = b + (m - b) := w64 _ (by omega)
     clear g
     go_wp2
     go_meet
     case rel => exact ⟨rfl, ⟨rfl⟩⟩
   case rest =>
    obtain ⟨rfl, HWc⟩ := hcut
    obtain rfl := HWc.out
    clear HWc hx q0 q1 k0
    obtain ⟨d, hd⟩ : ∃ d, d = Js.dot t z := ⟨_, rfl⟩
    have hd1 : z ≤ d ∧ d ≤ (t.size : Int) := by
     rw [hd]
     unfold Js.dot
     have r1 := Js.run_bound t _ (z + 1) rfl
     by_cases g : Js.is_ t z ⟨#[46]⟩ = true
     ·rw [if_pos g]
      have := (Bool.and_eq_true _ _ ▸ g : decide (z < (t.size : Int)) = true ∧ _).1
      have := yQ this
      have := r1.2 (by omega)
      split <;> omega
     ·rw [if_neg g]; omega
    have hr := HR.out
    rw [← hd] at hr
    have HR := yM hr
    have HD := yM hd
    clear hr hd
    go_upto_if 46 with (go_at_call 76; refine (is_calls B rb t z _ s v _ HP.out.fr (by omega)).mono ?_; rintro e w1 ⟨rfl, rfl⟩)
    go_cut [4] (fun v4 wc => v4 = .int .i64 d ∧ Aside0 (wc = (W.alloc (.cells #[.int .i64 0, .int .i64 0, .string ⟨#[]⟩, .slice none 0 0, .slice none 0 0] 56)).drew))
    case first =>
     have hd := HD.out
     unfold Js.dot at hd
     by_cases g : Js.is_ t z ⟨#[46]⟩ = true
     ·rw [if_pos g] at hd
      have hzl := yQ (Bool.and_eq_true _ _ ▸ g : decide (z < (t.size : Int)) = true ∧ _).1
      rw [g]
      clear g
      have r1 := Js.run_bound t _ (z + 1) rfl
      obtain ⟨y, hy⟩ : ∃ y, y = Js.run t (z + 1) - (z + 1) := ⟨_, rfl⟩
      have hy0 : 0 ≤ y ∧ y ≤ (t.size : Int) := by have := r1.2 (by omega); omega
      rw [← hy] at hd
      have HY := yM hy
      clear r1 hy
      have e2 : wrap64 (z + 1) = z + 1 := w64 _ (by omega)
      by_cases g2 : y > 0
      ·rw [if_pos g2] at hd
       subst hd
       have k2 : decide (y > 0) = true := decide_eq_true g2
       have e3 : wrap64 (1 + y) = 1 + y := w64 _ (by omega)
       have e4 : wrap64 (z + (1 + y)) = z + (1 + y) := w64 _ (by omega)
       clear g2
       go_wp2_with (go_at_call 77; refine (digits_calls B rb t (z + 1) s v _ HP.out.fr (by omega) (by omega)).mono ?_; rintro e w1 ⟨rfl, rfl⟩; rw [← HY.out])
       go_meet
       case rel => exact ⟨rfl, ⟨rfl⟩⟩
      ·rw [if_neg g2] at hd
       subst hd
       have k2 : decide (y > 0) = false := decide_eq_false g2
       clear g2
       go_wp2_with (go_at_call 77; refine (digits_calls B rb t (_ + 1) s v _ HP.out.fr (by omega) (by omega)).mono ?_; rintro e w1 ⟨rfl, rfl⟩; rw [← HY.out])
       go_meet
       case rel => exact ⟨rfl, ⟨rfl⟩⟩
     ·rw [if_neg g] at hd
      rw [Bool.eq_false_iff.mpr g]
      subst hd
      go_wp2
      go_meet
      case rel => exact ⟨rfl, ⟨rfl⟩⟩
    case rest =>
     obtain ⟨rfl, HWc⟩ := hcut
     obtain rfl := HWc.out
     clear HWc
     obtain ⟨f, hf⟩ : ∃ f, f = Js.expo t d := ⟨_, rfl⟩
     have hf1 : d ≤ f ∧ f ≤ (t.size : Int) := by
      rw [hf]
      unfold Js.expo Js.expk
      have r1 := Js.run_bound t _ (d + 1) rfl
      have r2 := Js.run_bound t _ (d + 1 + 1) rfl
      by_cases g : Js.is_ t d ⟨#[101, 69]⟩ = true
      ·rw [if_pos g]
       have := yQ (Bool.and_eq_true _ _ ▸ g : decide (d < (t.size : Int)) = true ∧ _).1
       have := r1.2 (by omega)
       by_cases g2 : Js.is_ t (d + 1) ⟨#[43, 45]⟩ = true
       ·rw [if_pos g2]
        have := yQ (Bool.and_eq_true _ _ ▸ g2 : decide (d + 1 < (t.size : Int)) = true ∧ _).1
        have := r2.2 (by omega)
        split <;> omega
       ·rw [if_neg g2]
        split <;> omega
      ·rw [if_neg g]; omega
     have hr := HR.out
     rw [← hf] at hr
     have HR := yM hr
     have HF := yM hf
     clear hr hf
     go_upto_if 59 with (go_at_call 76; refine (is_calls B rb t d _ s v _ HP.out.fr (by omega)).mono ?_; rintro e w1 ⟨rfl, rfl⟩)
     go_cut [4] (fun v4 wc => v4 = .int .i64 f ∧ Aside0 (wc = (W.alloc (.cells #[.int .i64 0, .int .i64 0, .string ⟨#[]⟩, .slice none 0 0, .slice none 0 0] 56)).drew))
     case first =>
      have hf := HF.out
      unfold Js.expo at hf
      by_cases g : Js.is_ t d ⟨#[101, 69]⟩ = true
      ·rw [if_pos g] at hf
       have hdl := yQ (Bool.and_eq_true _ _ ▸ g : decide (d < (t.size : Int)) = true ∧ _).1
       rw [g]
       clear g
       have e2 : wrap64 (d + 1) = d + 1 := w64 _ (by omega)
       have e3 : wrap64 (d + 1 + 1) = d + 1 + 1 := w64 _ (by omega)
       obtain ⟨c, hc⟩ : ∃ c, c = (if Js.is_ t (d + 1) ⟨#[43, 45]⟩ = true then d + 1 + 1 else d + 1) := ⟨_, rfl⟩
       have hc1 : d + 1 ≤ c ∧ c ≤ (t.size : Int) := by
        rw [hc]
        by_cases g2 : Js.is_ t (d + 1) ⟨#[43, 45]⟩ = true
        ·rw [if_pos g2]
         have := yQ (Bool.and_eq_true _ _ ▸ g2 : decide (d + 1 < (t.size : Int)) = true ∧ _).1
         omega
        ·rw [if_neg g2]; omega
       replace hf : f = Js.expk t c d := by
        rw [hf, hc]
        by_cases g2 : Js.is_ t (d + 1) ⟨#[43, 45]⟩ = true
        ·rw [if_pos g2, if_pos g2]
        ·rw [if_neg g2, if_neg g2]
       have HF2 := yM hf
       have HC := yM hc
       clear hf hc
       go_upto_if 64 with (go_at_call 76; refine (is_calls B rb t (d + 1) _ s v _ HP.out.fr (by omega)).mono ?_; rintro e w1 ⟨rfl, rfl⟩)
       go_cut [7] (fun v7 wc => v7 = .int .i64 c ∧ Aside0 (wc = (W.alloc (.cells #[.int .i64 0, .int .i64 0, .string ⟨#[]⟩, .slice none 0 0, .slice none 0 0] 56)).drew))
       case first =>
        have hc := HC.out
        by_cases g2 : Js.is_ t (d + 1) ⟨#[43, 45]⟩ = true
        ·rw [if_pos g2] at hc
         rw [g2]
         subst hc
         go_wp2
         go_meet
         case rel => exact ⟨rfl, ⟨rfl⟩⟩
        ·rw [if_neg g2] at hc
         rw [Bool.eq_false_iff.mpr g2]
         subst hc
         go_wp2
         go_meet
         case rel => exact ⟨rfl, ⟨rfl⟩⟩
       case rest =>
        obtain ⟨rfl, HWc⟩ := hcut
        obtain rfl := HWc.out
        have hf := HF2.out
        unfold Js.expk at hf
        have r1 := Js.run_bound t _ c rfl
        obtain ⟨y, hy⟩ : ∃ y, y = Js.run t c - c := ⟨_, rfl⟩
        have hy0 : 0 ≤ y ∧ y ≤ (t.size : Int) := by have := r1.2 (by omega); omega
        rw [← hy] at hf
        have HY := yM hy
        clear r1 hy HWc
        by_cases g2 : y > 0
        ·rw [if_pos g2] at hf
         subst hf
         have k2 : decide (y > 0) = true := decide_eq_true g2
         have e4 : wrap64 (c + y) = c + y := w64 _ (by omega)
         clear g2
         go_wp2_with (go_at_call 77; refine (digits_calls B rb t c s v _ HP.out.fr (by omega) (by omega)).mono ?_; rintro e w1 ⟨rfl, rfl⟩; rw [← HY.out])
         go_meet
         case rel => exact ⟨rfl, ⟨rfl⟩⟩
        ·rw [if_neg g2] at hf
         subst hf
         have k2 : decide (y > 0) = false := decide_eq_false g2
         clear g2
         go_wp2_with (go_at_call 77; refine (digits_calls B rb t c s v _ HP.out.fr (by omega) (by omega)).mono ?_; rintro e w1 ⟨rfl, rfl⟩; rw [← HY.out])
         go_meet
         case rel => exact ⟨rfl, ⟨rfl⟩⟩
      ·rw [if_neg g] at hf
       rw [Bool.eq_false_iff.mpr g]
       subst hf
       go_wp2
       go_meet
       case rel => exact ⟨rfl, ⟨rfl⟩⟩
     case rest =>
      obtain ⟨rfl, HWc⟩ := hcut
      obtain rfl := HWc.out
      clear HWc
      have hr := HR.out
      subst hr
      have e5 : wrap64 (f - s.at_) = f - s.at_ := w64 _ (by omega)
      have hnn : 0 ≤ f - s.at_ := by omega
      have hle : s.at_ + (f - s.at_) ≤ (t.size : Int) := by omega
      go_wp2_with (go_at_call 71; refine (take_calls B rb t (f - s.at_) s v _ HP.out.fr hnn hle).mono ?_; rintro e w1 ⟨rfl, v1, hr1, hm1⟩; have HR1 := yM hr1; have HM1 := yM (((Mv.refl rb _ v).fr : Mv rb (W.alloc (.cells #[.int .i64 0, .int .i64 0, .string ⟨#[]⟩, .slice none 0 0, .slice none 0 0] 56)) (W.alloc (.cells #[.int .i64 0, .int .i64 0, .string ⟨#[]⟩, .slice none 0 0, .slice none 0 0] 56)).drew v v).trans hm1); have hbox := Mv.box HM1.out hlW (fun k hk => (HR0.out.olt k hk).2); obtain ⟨y0, y1, y2, y3, y4, yf, yl⟩ := vcells hbox; have HBX := yM hbox; clear hbox hr1 hm1)
      refine bodyPost_ret (v := .agg #[.int .i64 3, .int .i64 s.at_, .string (t.extract s.at_.toNat (s.at_ + (f - s.at_)).toNat), .slice none 0 0, .slice none 0 0]) (by simp [results, Tryd.results61, go_sem, *]) rfl ?_
      exact ⟨⟨_, _, _, _, _, _, _, _, _, rfl⟩, box_done HR1.out HM1.out HBX.out (by decide) hlW _ _ _ _ _⟩
theorem hasPrefix_le {t : ByteArray} {a : Nat} {x : ByteArray} (ha : a ≤ t.size) (h : Lib.hasPrefix (t.extract a t.size).data.toList x.data.toList = true) : a + x.size ≤ t.size := by
 have h1 := (List.isPrefixOf_iff_prefix.mp h).length_le
 have h2 : (t.extract a t.size).data.toList.length = t.size - a := by
  rw [Array.length_toList]
  show (t.extract a t.size).size = _
  rw [ByteArray.size_extract]; omega
 have h3 : x.data.toList.length = x.size := Array.length_toList
 omega
set_option maxHeartbeats 4000000 in
set_option maxRecDepth 100000 in
theorem word_calls (B rb : Nat) (t x : ByteArray) (k : Int) (s : JS) (v : Value) (W : World) (h : Rd B rb t W s v) :
  Calls Tryd.prog 58 #[.pointer (some ⟨rb, 0, none⟩), .string x, .int .i64 k] W (PostV B rb t W v (Js.word t x s)) := by
 have HP := yM (show Rd B rb t (W.alloc (.cells #[.int .i64 0, .int .i64 0, .string ⟨#[]⟩, .slice none 0 0, .slice none 0 0] 56)) s v from h.fr)
 have HR0 := yM h
 obtain ⟨c0, c1, _, fr, lt⟩ := HP.out.at_
 have ht := h.ht
 have a0 := h.a0
 have a1 := h.a1
 clear h fr
 have hlW := HR0.out.lt
 have hne : W.heap.size ≠ rb := by omega
 have hne2 : rb ≠ W.heap.size := by omega
 have HI := yM (Tryd.strings_HasPrefix (t.extract s.at_.toNat t.size) x)
 have q0 := eq_true a0
 have q1 := eq_true a1
 by_cases g : Lib.hasPrefix (t.extract s.at_.toNat t.size).data.toList x.data.toList = true
 ·have hr : Js.word t x s = .ok (Js.tk t (x.size : Int) s) := if_pos g
  rw [hr]
  have hle : s.at_ + (x.size : Int) ≤ (t.size : Int) := by
   have := hasPrefix_le (by omega) g
   omega
  have HL := yM hle
  have HT := yM (take_calls B rb t (x.size : Int) s v _ HP.out (by omega) hle)
  have HG := yM g
  clear hle hr g
  go_enter Tryd.func58, Tryd.ntmps58
  go_wp2_with first
   | (go_at_call 38; refine (HI.out _).mono ?_; rintro e w2 ⟨rfl, rfl⟩; rw [HG.out])
   | (go_at_call 71; refine HT.out.mono ?_; rintro e w1 ⟨rfl, v1, hr1, hm1⟩; have HR1 := yM hr1; have HM1 := yM hm1; have hbox := Mv.box hm1 hlW (fun k hk => (HR0.out.olt k hk).2); obtain ⟨y0, y1, y2, y3, y4, yf, yl⟩ := vcells hbox; have HBX := yM hbox; clear hbox hr1 hm1)
  refine bodyPost_ret (v := .agg #[.int .i64 k, .int .i64 s.at_, .string ⟨#[]⟩, .slice none 0 0, .slice none 0 0]) (by simp [results, Tryd.results58, go_sem, *]) rfl ?_
  exact ⟨⟨_, _, _, _, _, _, _, _, _, rfl⟩, box_done HR1.out HM1.out HBX.out (by decide) hlW _ _ _ _ _⟩
 ·have hr : Js.word t x s = .error (120, s.at_) := if_neg g
  rw [hr]
  have HG := yM (Bool.eq_false_iff.mpr g)
  clear g hr
  go_enter Tryd.func58, Tryd.ntmps58
  go_wp2_with (go_at_call 38; refine (HI.out _).mono ?_; rintro e w2 ⟨rfl, rfl⟩; rw [HG.out])
  exact ⟨rfl, rfl, (Ch.refl _ W).alloc _⟩
theorem PostV.box {B rb : Nat} {t : ByteArray} {W w1 : World} {v : Value} {x : Int × Int} {o : Obj} {e : Ending} (h : PostV B rb t (W.alloc o) v (.error x) e w1) : PostV B rb t W v (.error x) e w1 := ⟨h.1, ch_alloc h.2⟩
set_option maxHeartbeats 4000000 in
set_option maxRecDepth 100000 in
theorem begins57_calls (B rb : Nat) (t : ByteArray) (s : JS) (v : Value) (W : World) (h : Rd B rb t W s v) :
  Calls Tryd.prog 57 #[.pointer (some ⟨rb, 0, none⟩)] W (PostV B rb t W v (Js.word t ⟨#[116, 114, 117, 101]⟩ s)) := by
 have HP := yM (show Rd B rb t (W.alloc (.cells #[.int .i64 0, .int .i64 0, .string ⟨#[]⟩, .slice none 0 0, .slice none 0 0] 56)) s v from h.fr)
 have HR0 := yM h
 have hlW := HR0.out.lt
 have HC := yM (word_calls B rb t ⟨#[116, 114, 117, 101]⟩ 2 s v _ HP.out)
 clear h
 obtain ⟨r, hr⟩ : ∃ r, r = Js.word t ⟨#[116, 114, 117, 101]⟩ s := ⟨_, rfl⟩
 rw [← hr] at HC ⊢
 clear hr
 rcases r with x | s1
 ·go_enter Tryd.func57, Tryd.ntmps57
  go_wp2_with (go_at_call 58; refine HC.out.mono ?_; rintro e w1 hU; obtain ⟨rfl, hc⟩ := hU; exact ⟨rfl, rfl, ch_alloc hc⟩)
 ·go_enter Tryd.func57, Tryd.ntmps57
  go_wp2_with (go_at_call 58; refine HC.out.mono ?_; rintro e w1 ⟨⟨k, a, x, A, n, c, A2, n2, c2, rfl⟩, v1, hr1, hm1⟩; have HR1 := yM hr1; have HM1 := yM hm1; have hbox := Mv.box hm1 hlW (fun k hk => (HR0.out.olt k hk).2); obtain ⟨y0, y1, y2, y3, y4, yf, yl⟩ := vcells hbox; have HBX := yM hbox; clear hbox hr1 hm1)
  refine bodyPost_ret (v := .agg #[.int .i64 k, .int .i64 a, .string x, .slice A n c, .slice A2 n2 c2]) (by simp [results, Tryd.results57, go_sem, *]) rfl ?_
  exact ⟨⟨_, _, _, _, _, _, _, _, _, rfl⟩, box_done HR1.out HM1.out HBX.out (by decide) hlW _ _ _ _ _⟩
set_option maxHeartbeats 4000000 in
set_option maxRecDepth 100000 in
theorem begins59_calls (B rb : Nat) (t : ByteArray) (s : JS) (v : Value) (W : World) (h : Rd B rb t W s v) :
  Calls Tryd.prog 59 #[.pointer (some ⟨rb, 0, none⟩)] W (PostV B rb t W v (Js.word t ⟨#[102, 97, 108, 115, 101]⟩ s)) := by
 have HP := yM (show Rd B rb t (W.alloc (.cells #[.int .i64 0, .int .i64 0, .string ⟨#[]⟩, .slice none 0 0, .slice none 0 0] 56)) s v from h.fr)
 have HR0 := yM h
 have hlW := HR0.out.lt
 have HC := yM (word_calls B rb t ⟨#[102, 97, 108, 115, 101]⟩ 1 s v _ HP.out)
 clear h
 obtain ⟨r, hr⟩ : ∃ r, r = Js.word t ⟨#[102, 97, 108, 115, 101]⟩ s := ⟨_, rfl⟩
 rw [← hr] at HC ⊢
 clear hr
 rcases r with x | s1
 ·go_enter Tryd.func59, Tryd.ntmps59
  go_wp2_with (go_at_call 58; refine HC.out.mono ?_; rintro e w1 hU; obtain ⟨rfl, hc⟩ := hU; exact ⟨rfl, rfl, ch_alloc hc⟩)
 ·go_enter Tryd.func59, Tryd.ntmps59
  go_wp2_with (go_at_call 58; refine HC.out.mono ?_; rintro e w1 ⟨⟨k, a, x, A, n, c, A2, n2, c2, rfl⟩, v1, hr1, hm1⟩; have HR1 := yM hr1; have HM1 := yM hm1; have hbox := Mv.box hm1 hlW (fun k hk => (HR0.out.olt k hk).2); obtain ⟨y0, y1, y2, y3, y4, yf, yl⟩ := vcells hbox; have HBX := yM hbox; clear hbox hr1 hm1)
  refine bodyPost_ret (v := .agg #[.int .i64 k, .int .i64 a, .string x, .slice A n c, .slice A2 n2 c2]) (by simp [results, Tryd.results59, go_sem, *]) rfl ?_
  exact ⟨⟨_, _, _, _, _, _, _, _, _, rfl⟩, box_done HR1.out HM1.out HBX.out (by decide) hlW _ _ _ _ _⟩
set_option maxHeartbeats 4000000 in
set_option maxRecDepth 100000 in
theorem begins60_calls (B rb : Nat) (t : ByteArray) (s : JS) (v : Value) (W : World) (h : Rd B rb t W s v) :
  Calls Tryd.prog 60 #[.pointer (some ⟨rb, 0, none⟩)] W (PostV B rb t W v (Js.word t ⟨#[110, 117, 108, 108]⟩ s)) := by
 have HP := yM (show Rd B rb t (W.alloc (.cells #[.int .i64 0, .int .i64 0, .string ⟨#[]⟩, .slice none 0 0, .slice none 0 0] 56)) s v from h.fr)
 have HR0 := yM h
 have hlW := HR0.out.lt
 have HC := yM (word_calls B rb t ⟨#[110, 117, 108, 108]⟩ 0 s v _ HP.out)
 clear h
 obtain ⟨r, hr⟩ : ∃ r, r = Js.word t ⟨#[110, 117, 108, 108]⟩ s := ⟨_, rfl⟩
 rw [← hr] at HC ⊢
 clear hr
 rcases r with x | s1
 ·go_enter Tryd.func60, Tryd.ntmps60
  go_wp2_with (go_at_call 58; refine HC.out.mono ?_; rintro e w1 hU; obtain ⟨rfl, hc⟩ := hU; exact ⟨rfl, rfl, ch_alloc hc⟩)
 ·go_enter Tryd.func60, Tryd.ntmps60
  go_wp2_with (go_at_call 58; refine HC.out.mono ?_; rintro e w1 ⟨⟨k, a, x, A, n, c, A2, n2, c2, rfl⟩, v1, hr1, hm1⟩; have HR1 := yM hr1; have HM1 := yM hm1; have hbox := Mv.box hm1 hlW (fun k hk => (HR0.out.olt k hk).2); obtain ⟨y0, y1, y2, y3, y4, yf, yl⟩ := vcells hbox; have HBX := yM hbox; clear hbox hr1 hm1)
  refine bodyPost_ret (v := .agg #[.int .i64 k, .int .i64 a, .string x, .slice A n c, .slice A2 n2 c2]) (by simp [results, Tryd.results60, go_sem, *]) rfl ?_
  exact ⟨⟨_, _, _, _, _, _, _, _, _, rfl⟩, box_done HR1.out HM1.out HBX.out (by decide) hlW _ _ _ _ _⟩
def beg (c : Int) : Option FuncId := if c = 123 then some 54 else if c = 91 then some 55 else if c = 34 then some 56 else if c = 116 then some 57 else if c = 102 then some 59 else if c = 110 then some 60 else if c = 45 ∨ (48 ≤ c ∧ c ≤ 57) then some 61 else none
def begV : Option FuncId → Value
 | some f => .func (.func f) #[] #[]
 | none => .nilFunc
set_option maxHeartbeats 4000000 in
set_option maxRecDepth 100000 in
theorem begins_calls (c : Int) (h0 : 0 ≤ c) (h1 : c < 256) (W : World) : Calls Tryd.prog 41 #[.int .u8 c] W fun e w' => e = .returned (begV (beg c)) ∧ w' = W := by
 by_cases g0 : c = 123
 ·subst g0
  have hb : beg 123 = some 54 := by decide
  rw [hb]
  clear hb
  go_enter Tryd.func41, Tryd.ntmps41
  go_wp2
  go_ret
  exact ⟨rfl, rfl⟩
 by_cases g1 : c = 91
 ·subst g1
  have hb : beg 91 = some 55 := by decide
  rw [hb]
  clear hb
  go_enter Tryd.func41, Tryd.ntmps41
  go_wp2
  go_ret
  exact ⟨rfl, rfl⟩
 by_cases g2 : c = 34
 ·subst g2
  have hb : beg 34 = some 56 := by decide
  rw [hb]
  clear hb
  go_enter Tryd.func41, Tryd.ntmps41
  go_wp2
  go_ret
  exact ⟨rfl, rfl⟩
 by_cases g3 : c = 116
 ·subst g3
  have hb : beg 116 = some 57 := by decide
  rw [hb]
  clear hb
  go_enter Tryd.func41, Tryd.ntmps41
  go_wp2
  go_ret
  exact ⟨rfl, rfl⟩
 by_cases g4 : c = 102
 ·subst g4
  have hb : beg 102 = some 59 := by decide
  rw [hb]
  clear hb
  go_enter Tryd.func41, Tryd.ntmps41
  go_wp2
  go_ret
  exact ⟨rfl, rfl⟩
 by_cases g5 : c = 110
 ·subst g5
  have hb : beg 110 = some 60 := by decide
  rw [hb]
  clear hb
  go_enter Tryd.func41, Tryd.ntmps41
  go_wp2
  go_ret
  exact ⟨rfl, rfl⟩
 by_cases g6 : c = 45
 ·subst g6
  have hb : beg 45 = some 61 := by decide
  rw [hb]
  clear hb
  go_enter Tryd.func41, Tryd.ntmps41
  go_wp2
  go_ret
  exact ⟨rfl, rfl⟩
 by_cases g7 : c = 48
 ·subst g7
  have hb : beg 48 = some 61 := by decide
  rw [hb]
  clear hb
  go_enter Tryd.func41, Tryd.ntmps41
  go_wp2
  go_ret
  exact ⟨rfl, rfl⟩
 by_cases g8 : c = 49
 ·subst g8
  have hb : beg 49 = some 61 := by decide
  rw [hb]
  clear hb
  go_enter Tryd.func41, Tryd.ntmps41
  go_wp2
  go_ret
  exact ⟨rfl, rfl⟩
 by_cases g9 : c = 50
 ·subst g9
  have hb : beg 50 = some 61 := by decide
  rw [hb]
  clear hb
  go_enter Tryd.func41, Tryd.ntmps41
  go_wp2
  go_ret
  exact ⟨rfl, rfl⟩
 by_cases g10 : c = 51
 ·subst g10
  have hb : beg 51 = some 61 := by decide
  rw [hb]
  clear hb
  go_enter Tryd.func41, Tryd.ntmps41
  go_wp2
  go_ret
  exact ⟨rfl, rfl⟩
 by_cases g11 : c = 52
 ·subst g11
  have hb : beg 52 = some 61 := by decide
  rw [hb]
  clear hb
  go_enter Tryd.func41, Tryd.ntmps41
  go_wp2
  go_ret
  exact ⟨rfl, rfl⟩
 by_cases g12 : c = 53
 ·subst g12
  have hb : beg 53 = some 61 := by decide
  rw [hb]
  clear hb
  go_enter Tryd.func41, Tryd.ntmps41
  go_wp2
  go_ret
  exact ⟨rfl, rfl⟩
 by_cases g13 : c = 54
 ·subst g13
  have hb : beg 54 = some 61 := by decide
  rw [hb]
  clear hb
  go_enter Tryd.func41, Tryd.ntmps41
  go_wp2
  go_ret
  exact ⟨rfl, rfl⟩
 by_cases g14 : c = 55
 ·subst g14
  have hb : beg 55 = some 61 := by decide
  rw [hb]
  clear hb
  go_enter Tryd.func41, Tryd.ntmps41
  go_wp2
  go_ret
  exact ⟨rfl, rfl⟩
 by_cases g15 : c = 56
 ·subst g15
  have hb : beg 56 = some 61 := by decide
  rw [hb]
  clear hb
  go_enter Tryd.func41, Tryd.ntmps41
  go_wp2
  go_ret
  exact ⟨rfl, rfl⟩
 by_cases g16 : c = 57
 ·subst g16
  have hb : beg 57 = some 61 := by decide
  rw [hb]
  clear hb
  go_enter Tryd.func41, Tryd.ntmps41
  go_wp2
  go_ret
  exact ⟨rfl, rfl⟩
 have hb : beg c = none := by
  unfold beg
  rw [if_neg g0, if_neg g1, if_neg g2, if_neg g3, if_neg g4, if_neg g5, if_neg (by omega)]
 rw [hb]
 have k0 : (c == 123) = false := yB g0
 have k1 : (c == 91) = false := yB g1
 have k2 : (c == 34) = false := yB g2
 have k3 : (c == 116) = false := yB g3
 have k4 : (c == 102) = false := yB g4
 have k5 : (c == 110) = false := yB g5
 have k6 : (c == 45) = false := yB g6
 have k7 : (c == 48) = false := yB g7
 have k8 : (c == 49) = false := yB g8
 have k9 : (c == 50) = false := yB g9
 have k10 : (c == 51) = false := yB g10
 have k11 : (c == 52) = false := yB g11
 have k12 : (c == 53) = false := yB g12
 have k13 : (c == 54) = false := yB g13
 have k14 : (c == 55) = false := yB g14
 have k15 : (c == 56) = false := yB g15
 have k16 : (c == 57) = false := yB g16
 clear hb g0 g1 g2 g3 g4 g5 g6 g7 g8 g9 g10 g11 g12 g13 g14 g15 g16
 go_enter Tryd.func41, Tryd.ntmps41
 go_wp2
 go_ret
 exact ⟨rfl, rfl⟩
theorem or16 {x y : Int} (hx₀ : 0 ≤ x) (hx₁ : x < 65536) (h₀ : 0 ≤ y) (h₁ : y < 16) : Go.bits .or .i32 (wrap32 (x * 16)) y = x * 16 + y := by
 have e : wrap32 (x * 16) = x * 16 := by unfold wrap32; omega
 rw [e]
 exact bits_join .i32 31 (by decide) wraps_i32 4 (x * 16) y (by omega) (by show x * 16 % 16 = 0; omega) (by show x * 16 < 2147483648; omega) h₀ (by show y < 16; exact h₁) (by show y < 2147483648; omega)
namespace Js
def hexd (c : Int) : Int := if 48 ≤ c ∧ c ≤ 57 then c - 48 else if 97 ≤ c ∧ c ≤ 102 then c - 97 + 10 else if 65 ≤ c ∧ c ≤ 70 then c - 65 + 10 else -1
theorem hexd_lt (c : Int) : hexd c < 16 := by unfold hexd; split; omega; split; omega; split <;> omega
def hexN (s : ByteArray) : Nat → Int → Int → Int
 | 0, _, x => x
 | m + 1, i, x => if hexd (bt s i) < 0 then -1 else hexN s m (i + 1) (x * 16 + hexd (bt s i))
def unitAt (s : ByteArray) (i : Int) : Int := if i + 6 ≤ (s.size : Int) ∧ bt s i = 92 ∧ bt s (i + 1) = 117 then hexN s 4 (i + 2) 0 else -1
def escAt (s : ByteArray) (i : Int) : Int × Int :=
 if unitAt s i < 0 ∨ (56320 ≤ unitAt s i ∧ unitAt s i ≤ 57343) then (0, 0)
 else if unitAt s i < 55296 ∨ unitAt s i > 56319 then (unitAt s i, 6)
 else if unitAt s (i + 6) < 56320 ∨ unitAt s (i + 6) > 57343 then (0, 0)
 else (65536 + (unitAt s i - 55296) * 1024 + (unitAt s (i + 6) - 56320), 12)
theorem hexN_lt (s : ByteArray) : ∀ (m : Nat) (i x B : Int), x < B → 1 ≤ B → hexN s m i x < B * (16 ^ m : Int)
 | 0, i, x, B, h, _ => by simp [hexN]; exact h
 | m + 1, i, x, B, h, hB => by
  unfold hexN
  have hp : (1 : Int) ≤ 16 ^ (m + 1) := by
   have : (1 : Nat) ≤ 16 ^ (m + 1) := Nat.one_le_pow _ _ (by decide)
   exact_mod_cast this
  split
  ·have : 0 ≤ B * (16 ^ (m + 1) : Int) := Int.mul_nonneg (by omega) (by omega)
   omega
  ·have := hexN_lt s m (i + 1) (x * 16 + hexd (bt s i)) (B * 16) (by have := hexd_lt (bt s i); omega) (by omega)
   rw [Int.pow_succ, Int.mul_comm (16 ^ m) 16, ← Int.mul_assoc]
   exact this
theorem unit_l0 (s : ByteArray) : ∀ (m k : Nat) (i x : Int), 3 * m + 1 ≤ k → i + m = 6 → 2 ≤ i → 6 ≤ (s.size : Int) → 0 ≤ x → x * (16 ^ m : Int) < 65536 →
  json_unit.l0 k s x i = some (if hexN s m i x < 0 then (0, false) else (hexN s m i x, true))
 | 0, k, i, x, hk, hi, h0, hs, hx, _ => by
  obtain ⟨k, rfl⟩ : ∃ j, k = j + 1 := ⟨k - 1, by omega⟩
  rw [json_unit.l0, if_neg (by omega)]
  have e : hexN s 0 i x = x := rfl
  rw [e, if_neg (by omega)]
 | m + 1, k, i, x, hk, hi, h0, hs, hx, hb => by
  obtain ⟨k, rfl⟩ : ∃ j, k = j + 1 + 1 + 1 := ⟨k - 3, by omega⟩
  obtain ⟨r0, r1⟩ := bt_range s i
  have hx2 : x < 65536 := by
   have hp : (1 : Int) ≤ 16 ^ (m + 1) := by
    have : (1 : Nat) ≤ 16 ^ (m + 1) := Nat.one_le_pow _ _ (by decide)
    exact_mod_cast this
   have : x * 1 ≤ x * (16 ^ (m + 1) : Int) := Int.mul_le_mul_of_nonneg_left hp hx
   omega
  have step : ∀ d : Int, 0 ≤ d → d < 16 → hexd (bt s i) = d → json_unit.l0 k s (Go.bits .or .i32 (wrap32 (x * 16)) d) (wrap64 (i + 1)) = some (if hexN s (m + 1) i x < 0 then (0, false) else (hexN s (m + 1) i x, true)) ∧ json_unit.l0 (k + 1) s (Go.bits .or .i32 (wrap32 (x * 16)) d) (wrap64 (i + 1)) = some (if hexN s (m + 1) i x < 0 then (0, false) else (hexN s (m + 1) i x, true)) := by
   intro d d0 d1 hd
   have e : wrap64 (i + 1) = i + 1 := by unfold wrap64; omega
   have hh : hexN s (m + 1) i x = hexN s m (i + 1) (x * 16 + d) := by
    rw [hexN, if_neg (by omega), hd]
   have hb2 : (x * 16 + d) * (16 ^ m : Int) < 65536 := by
    have e2 : x * (16 ^ (m + 1) : Int) = x * 16 * 16 ^ m := by rw [Int.pow_succ, Int.mul_comm (16 ^ m) 16, ← Int.mul_assoc]
    have hm : m ≤ 3 := by omega
    have hx3 : x * 16 * (16 ^ m : Int) < 65536 := by rw [← e2]; exact hb
    rcases (show m = 0 ∨ m = 1 ∨ m = 2 ∨ m = 3 by omega) with h | h | h | h <;> subst h <;> simp at hx3 ⊢ <;> omega
   rw [e, hh, or16 hx hx2 d0 d1]
   exact ⟨unit_l0 s m k (i + 1) _ (by omega) (by omega) (by omega) hs (by omega) hb2, unit_l0 s m (k + 1) (i + 1) _ (by omega) (by omega) (by omega) hs (by omega) hb2⟩
  have none_ : hexd (bt s i) = -1 → (if hexN s (m + 1) i x < 0 then ((0 : Int), false) else (hexN s (m + 1) i x, true)) = (0, false) := by
   intro h
   have : hexN s (m + 1) i x = -1 := by rw [hexN, if_pos (by omega)]
   rw [this, if_pos (by decide)]
  rw [json_unit.l0, if_pos (by omega), if_pos (by omega), if_pos (by omega)]
  have j3 : ¬ (48 ≤ bt s i ∧ bt s i ≤ 57) → ∀ b : Bool, b = decide (97 ≤ bt s i ∧ bt s i ≤ 102) → json_unit.j3 (k + 1) s x i (bt s i) b = some (if hexN s (m + 1) i x < 0 then (0, false) else (hexN s (m + 1) i x, true)) := by
   intro hn b hb
   rw [json_unit.j3]
   by_cases g : 97 ≤ bt s i ∧ bt s i ≤ 102
   ·rw [hb, decide_eq_true g, if_pos rfl]
    have := (step (bt s i - 97 + 10) (by omega) (by omega) (by unfold hexd; rw [if_neg hn, if_pos g])).1
    rw [show (((bt s i - 97) % 256) + 10) % 256 = bt s i - 97 + 10 by omega]
    exact this
   ·rw [hb, decide_eq_false g, if_neg Bool.false_ne_true]
    by_cases g2 : bt s i ≥ 65
    ·rw [if_pos g2]
     by_cases g3 : bt s i ≤ 70
     ·rw [if_pos g3]
      have := (step (bt s i - 65 + 10) (by omega) (by omega) (by unfold hexd; rw [if_neg hn, if_neg g, if_pos (by omega)])).1
      rw [show (((bt s i - 65) % 256) + 10) % 256 = bt s i - 65 + 10 by omega]
      exact this
     ·rw [if_neg g3, none_ (by unfold hexd; rw [if_neg hn, if_neg g, if_neg (by omega)])]
    ·rw [if_neg g2, none_ (by unfold hexd; rw [if_neg hn, if_neg g, if_neg (by omega)])]
  have j2 : ∀ b : Bool, b = decide (48 ≤ bt s i ∧ bt s i ≤ 57) → json_unit.j2 (k + 1 + 1) s x i (bt s i) b = some (if hexN s (m + 1) i x < 0 then (0, false) else (hexN s (m + 1) i x, true)) := by
   intro b hb
   rw [json_unit.j2]
   by_cases g : 48 ≤ bt s i ∧ bt s i ≤ 57
   ·rw [hb, decide_eq_true g, if_pos rfl]
    have := (step (bt s i - 48) (by omega) (by omega) (by unfold hexd; rw [if_pos g])).2
    rw [show (bt s i - 48) % 256 = bt s i - 48 by omega]
    exact this
   ·rw [hb, decide_eq_false g, if_neg Bool.false_ne_true]
    by_cases g2 : bt s i ≥ 97
    ·rw [if_pos g2]
     exact j3 g _ (by by_cases g4 : bt s i ≤ 102 <;> simp [g4] <;> omega)
    ·rw [if_neg g2]
     exact j3 g _ (by symm; exact decide_eq_false (by omega))
  by_cases g : bt s i ≥ 48
  ·rw [if_pos g]
   exact j2 _ (by by_cases g4 : bt s i ≤ 57 <;> simp [g4] <;> omega)
  ·rw [if_neg g]
   exact j2 _ (by symm; exact decide_eq_false (by omega))
theorem unit_f (s : ByteArray) (k : Nat) (hk : 14 ≤ k) : json_unit.f k s = some (if unitAt s 0 < 0 then (0, false) else (unitAt s 0, true)) := by
 obtain ⟨k, rfl⟩ : ∃ j, k = j + 1 := ⟨k - 1, by omega⟩
 unfold json_unit.f
 have j0t : json_unit.j0 (k + 1) s true = some (0, false) := by rw [json_unit.j0, if_pos rfl]
 have un : ∀ h : ¬ ((0 : Int) + 6 ≤ (s.size : Int) ∧ bt s 0 = 92 ∧ bt s (0 + 1) = 117), unitAt s 0 = -1 := fun h => if_neg h
 by_cases h1 : (s.size : Int) < 6
 ·rw [if_pos h1, j0t, un (by omega), if_pos (by decide)]
 ·rw [if_neg h1, if_pos (by omega)]
  by_cases h2 : bt s 0 = 92
  ·rw [if_pos h2, if_pos (by omega)]
   by_cases h3 : bt s 1 = 117
   ·have e : unitAt s 0 = hexN s 4 2 0 := if_pos ⟨by omega, h2, h3⟩
    rw [h3, e, show (((117 : Int)) != 117) = false from rfl, json_unit.j0, if_neg Bool.false_ne_true]
    exact unit_l0 s 4 k 2 0 (by omega) rfl (by decide) (by omega) (by decide) (by decide)
   ·have : (bt s 1 != 117) = true := bne_iff_ne.mpr h3
    rw [this, j0t, un (fun h => h3 h.2.2), if_pos (by decide)]
  ·rw [if_neg h2, j0t, un (fun h => h2 h.2.1), if_pos (by decide)]
theorem unitAt_lt (s : ByteArray) (i : Int) : unitAt s i < 65536 := by
 unfold unitAt
 split
 ·have := hexN_lt s 4 (i + 2) 0 1 (by decide) (by decide)
  exact this
 ·decide
theorem hexN_cut (t : ByteArray) (a : Nat) (ha : a ≤ t.size) : ∀ (m : Nat) (i x : Int), 0 ≤ i → i + m ≤ (t.size : Int) - a → hexN (t.extract a t.size) m i x = hexN t m (a + i) x
 | 0, _, _, _, _ => rfl
 | m + 1, i, x, h0, h1 => by
  unfold hexN
  rw [U.bt_extract t a t.size (Nat.le_refl _) i h0 (by omega)]
  split
  ·rfl
  ·rw [hexN_cut t a ha m (i + 1) _ (by omega) (by omega), show (a : Int) + (i + 1) = a + i + 1 by omega]
theorem unit_cut (t : ByteArray) (a : Nat) (ha : a ≤ t.size) (i : Int) (h0 : 0 ≤ i) : unitAt (t.extract a t.size) i = unitAt t (a + i) := by
 have hs := U.size_extract t a t.size (Nat.le_refl _)
 unfold unitAt
 by_cases h : i + 6 ≤ ((t.extract a t.size).size : Int)
 ·have h2 : (a : Int) + i + 6 ≤ (t.size : Int) := by omega
  rw [U.bt_extract t a t.size (Nat.le_refl _) i h0 (by omega), U.bt_extract t a t.size (Nat.le_refl _) (i + 1) (by omega) (by omega), show (a : Int) + (i + 1) = a + i + 1 by omega]
  by_cases g : bt t (a + i) = 92 ∧ bt t (a + i + 1) = 117
  ·rw [if_pos ⟨h, g⟩, if_pos ⟨h2, g⟩, hexN_cut t a ha 4 (i + 2) 0 (by omega) (by simp; omega), show (a : Int) + (i + 2) = a + i + 2 by omega]
  ·rw [if_neg (fun q => g q.2), if_neg (fun q => g q.2)]
 ·rw [if_neg (fun q => h q.1), if_neg (fun q => by omega)]
theorem escaped_f (s : ByteArray) : json_escaped.f 40 s = some (escAt s 0) := by
 have hl := unitAt_lt s 0
 have hl6 := unitAt_lt s 6
 unfold json_escaped.f
 rw [unit_f s 40 (by decide), Option.bind_some]
 unfold escAt
 by_cases h1 : unitAt s 0 < 0
 ·rw [if_pos h1, if_pos (Or.inl h1), if_neg (by decide)]
  rw [show (40 : Nat) = 39 + 1 from rfl, json_escaped.j0, if_pos (by rfl)]
 ·rw [if_neg h1]
  have hj : ∀ b : Bool, b = decide (56320 ≤ unitAt s 0 ∧ unitAt s 0 ≤ 57343) → json_escaped.j0 40 s (unitAt s 0) b = some (if unitAt s 0 < 0 ∨ (56320 ≤ unitAt s 0 ∧ unitAt s 0 ≤ 57343) then (0, 0)
    else if unitAt s 0 < 55296 ∨ unitAt s 0 > 56319 then (unitAt s 0, 6)
    else if unitAt s (0 + 6) < 56320 ∨ unitAt s (0 + 6) > 57343 then (0, 0)
    else (65536 + (unitAt s 0 - 55296) * 1024 + (unitAt s (0 + 6) - 56320), 12)) := by
   intro b hb
   rw [show (40 : Nat) = 39 + 1 from rfl, json_escaped.j0]
   by_cases h2 : 56320 ≤ unitAt s 0 ∧ unitAt s 0 ≤ 57343
   ·rw [hb, decide_eq_true h2, if_pos rfl, if_pos (Or.inr h2)]
   ·rw [hb, decide_eq_false h2, if_neg Bool.false_ne_true, if_neg (show ¬ (unitAt s 0 < 0 ∨ (56320 ≤ unitAt s 0 ∧ unitAt s 0 ≤ 57343)) from fun h => h.elim h1 h2)]
    have hj1 : ∀ c : Bool, c = decide (unitAt s 0 < 55296 ∨ unitAt s 0 > 56319) → json_escaped.j1 39 s (unitAt s 0) c = some (if unitAt s 0 < 55296 ∨ unitAt s 0 > 56319 then (unitAt s 0, 6)
      else if unitAt s (0 + 6) < 56320 ∨ unitAt s (0 + 6) > 57343 then (0, 0)
      else (65536 + (unitAt s 0 - 55296) * 1024 + (unitAt s (0 + 6) - 56320), 12)) := by
     intro c hc
     rw [show (39 : Nat) = 38 + 1 from rfl, json_escaped.j1]
     by_cases h3 : unitAt s 0 < 55296 ∨ unitAt s 0 > 56319
     ·rw [hc, decide_eq_true h3, if_pos rfl, if_pos h3]
     ·rw [hc, decide_eq_false h3, if_neg Bool.false_ne_true, if_neg h3]
      have h6 : 6 ≤ s.size := by
       unfold unitAt at h1
       by_cases g : (0 : Int) + 6 ≤ (s.size : Int) ∧ bt s 0 = 92 ∧ bt s (0 + 1) = 117
       ·omega
       ·rw [if_neg g] at h1; exact absurd (by decide) h1
      rw [if_pos (by omega), unit_f _ 38 (by decide), Option.bind_some, unit_cut s 6 h6 0 (by decide), show (((6 : Nat) : Int) + 0) = 6 by rfl, show (0 : Int) + 6 = 6 by rfl]
      by_cases h4 : unitAt s 6 < 0
      ·rw [if_pos h4, if_neg (by decide), if_pos (Or.inl (by omega))]
      ·rw [if_neg h4, if_pos (by rfl)]
       by_cases h5 : unitAt s 6 < 56320
       ·rw [if_pos h5, if_pos (Or.inl h5)]
       ·rw [if_neg h5]
        by_cases h7 : unitAt s 6 > 57343
        ·rw [if_pos h7, if_pos (Or.inr h7)]
        ·rw [if_neg h7, if_neg (by omega)]
         congr 2
         dsimp only
         unfold wrap32
         omega
    by_cases h3 : unitAt s 0 < 55296
    ·rw [if_pos h3]; exact hj1 true (by symm; exact decide_eq_true (Or.inl h3))
    ·rw [if_neg h3]; exact hj1 _ (by by_cases g : unitAt s 0 > 56319 <;> simp [g] <;> omega)
  rw [if_pos (by rfl)]
  dsimp only
  by_cases h2 : unitAt s 0 ≥ 56320
  ·rw [if_pos h2]; exact hj _ (by by_cases g : unitAt s 0 ≤ 57343 <;> simp [g] <;> omega)
  ·rw [if_neg h2]; exact hj _ (by symm; exact decide_eq_false (by omega))
theorem esc_eq (t : ByteArray) (i : Int) (h0 : 0 ≤ i) (h1 : i ≤ (t.size : Int)) : esc t i = escAt t i ∧ json_escaped.f 40 (t.extract i.toNat t.size) = some (escAt t i) := by
 have e := escaped_f (t.extract i.toNat t.size)
 have e2 : escAt (t.extract i.toNat t.size) 0 = escAt t i := by
  have a := unit_cut t i.toNat (by omega) 0 (by decide)
  have b := unit_cut t i.toNat (by omega) 6 (by decide)
  rw [show ((i.toNat : Nat) : Int) + 0 = i by omega] at a
  rw [show ((i.toNat : Nat) : Int) + 6 = i + 6 by omega] at b
  unfold escAt
  rw [a, show (0 : Int) + 6 = 6 by rfl, b]
 rw [e2] at e
 exact ⟨by unfold esc; rw [e]; rfl, e⟩
theorem escAt_bound (t : ByteArray) (i : Int) : ((escAt t i).2 = 0 ∨ (escAt t i).2 = 6 ∨ (escAt t i).2 = 12) ∧ 0 ≤ (escAt t i).1 ∧ (escAt t i).1 ≤ 1114111 := by
 have h1 := unitAt_lt t i
 have h2 := unitAt_lt t (i + 6)
 unfold escAt
 split
 ·exact ⟨Or.inl rfl, by decide, by decide⟩
 ·split
  ·exact ⟨Or.inr (Or.inl rfl), by dsimp only; omega, by dsimp only; omega⟩
  ·split
   ·exact ⟨Or.inl rfl, by decide, by decide⟩
   ·exact ⟨Or.inr (Or.inr rfl), by dsimp only; omega, by dsimp only; omega⟩
set_option maxRecDepth 100000 in
theorem mean_f (c : Int) (h0 : 0 ≤ c) (h1 : c ≤ 255) : json_meant.f 10 c = some (mean c) ∧ 0 ≤ mean c ∧ mean c ≤ 255 := by
 have : ∀ n : Fin 256, json_meant.f 10 (n.val : Int) = some (mean (n.val : Int)) ∧ 0 ≤ mean (n.val : Int) ∧ mean (n.val : Int) ≤ 255 := by decide
 have h := this ⟨c.toNat, by omega⟩
 rwa [show ((c.toNat : Nat) : Int) = c by omega] at h
end Js
theorem wp_append_byte {W : World} {ops : Array Oper} {rest : List Oper} {o : Oper} {a : Act} {Q : Exit → Act → World → Prop} (hgd : o.guard = none) (sl x : Operand)
  (ho : o.op = .call { callee := .builtin .append, args := #[sl, x], argTypes := #[49, 49] }) (B : Nat) (u : Value) (n : Nat) (bs : List Value) (c : Int) (hs : a.eval sl = u) (hown : W.ownsRow B 5 1 u n bs) (hx : a.eval x = .slice (some ⟨W.heap.size, 0, none⟩) 1 1) (hn : n < 1099511627776) (hB : B ≤ W.heap.size)
  (h : ∀ u' w', w'.ownsRow B 5 1 u' (n + 1) (bs ++ [.int .u8 c]) → (W.alloc (.cells #[.int .u8 c] 5)).grownBy w' u.ownBlock → wpList Tryd.prog ops Q rest (a.put o.dst u') w') : wpList Tryd.prog ops Q (o :: rest) a (W.alloc (.cells #[.int .u8 c] 5)) := by
 obtain ⟨i, hi, hz⟩ := Option.map_eq_some_iff.1 info5
 simp only [Prod.mk.injEq] at hz
 obtain ⟨hz, hsize, hby⟩ := hz
 refine wpList_append_own _ hgd sl x 49 ho B 5 i (.int .u8 0) 1 1 Tryd.underlying49 hi hz hsize hby rfl (by decide) u n bs hs (hown.alloc _) ⟨W.heap.size, 0, none⟩ 1 1 [.int .u8 c] hx rfl ?_ ?_ ?_ ?_ ?_ ?_
 ·intro j u hj
  match j, hj with
  | 0, hj => simp at hj; subst hj; simp [Addr.add]
 ·intro u hu; simp at hu; subst hu; rfl
 ·unfold maxLen; omega
 ·omega
 ·simp; omega
 ·intro u' w' h1 h2 _
  exact h u' w' h1 h2
structure QI (B rb : Nat) (t : ByteArray) (s : JS) (v : Value) (W w : World) (u : Value) (n : Nat) (bs : List Value) : Prop where
 rd : Rd B rb t w s v
 low : Below W.heap.size W w
 b0 : w.heap[W.heap.size]? = some (.cells #[.int .i64 0, .int .i64 0, .string ⟨#[]⟩, .slice none 0 0, .slice none 0 0] 56 (0, 0))
 b1 : w.heap[W.heap.size + 1]? = some (.cells #[.int .i64 125, .int .i64 s.at_] 74 (0, 0))
 own : w.ownsRow (W.heap.size + 2) 5 1 u n bs
 r : rb < W.heap.size
 o : ∀ k, v.ownBlock = some k → k < W.heap.size
theorem own_lt {w : World} {B e sz n : Nat} {u : Value} {bs : List Value} (h : w.ownsRow B e sz u n bs) {k : Nat} (hk : u.ownBlock = some k) : B ≤ k ∧ k < w.heap.size := by
 rcases h.2 with ⟨rfl, _⟩ | ⟨g, cap, cur, rfl, hb, hg, _⟩
 ·cases hk
 ·obtain rfl : g = k := Option.some.inj hk
  exact ⟨hb, (Array.getElem?_eq_some_iff.1 hg).1⟩
theorem QI.grown {B rb : Nat} {t : ByteArray} {s : JS} {v : Value} {W w w2 : World} {u u' : Value} {n n' : Nat} {bs bs' : List Value} {o : Obj} (h : QI B rb t s v W w u n bs) (hg : (w.alloc o).grownBy w2 u.ownBlock) (ho : w2.ownsRow (W.heap.size + 2) 5 1 u' n' bs') : QI B rb t s v W w2 u' n' bs' := by
 have hc : Ch (fun k => u.ownBlock = some k) w w2 := ((Ch.refl (fun k => u.ownBlock = some k) w).alloc o).then_grown hg (fun i _ e => e)
 have hl : ∀ k, u.ownBlock = some k → W.heap.size + 2 ≤ k := fun k hk => (own_lt h.own hk).1
 have hs := h.low.size
 have l1 := (Array.getElem?_eq_some_iff.1 h.b1).1
 exact ⟨h.rd.ch hc (fun e => by have := hl _ e; have := h.r; omega) (fun k hk e => by have := hl _ e; have := h.o k hk; omega), h.low.trans (hc.below (fun k hk e => by have := hl _ e; omega) hs), (hc.block _ (by omega) (fun e => by have := hl _ e; omega)).trans h.b0, (hc.block _ l1 (fun e => by have := hl _ e; omega)).trans h.b1, ho, h.r, h.o⟩
theorem QI.fr {B rb : Nat} {t : ByteArray} {s : JS} {v : Value} {W w w2 : World} {u : Value} {n : Nat} {bs : List Value} (h : QI B rb t s v W w u n bs) [k : Fr w w2] : QI B rb t s v W w2 u n bs := by
 have hb := Fr.out k
 have hs := h.low.size
 exact ⟨h.rd.fr, h.low.trans ⟨hb.os, hb.tape, hb.output, hb.size, fun i hi => hb.block i (by omega)⟩, (hb.block _ (Array.getElem?_eq_some_iff.1 h.b0).1).trans h.b0, (hb.block _ (Array.getElem?_eq_some_iff.1 h.b1).1).trans h.b1, own_kept h.own (fun k hk => hb.block k (own_lt h.own hk).2), h.r, h.o⟩
theorem QI.mv {B rb : Nat} {t : ByteArray} {s : JS} {v : Value} {W w : World} {u : Value} {n : Nat} {bs : List Value} (h : QI B rb t s v W w u n bs) : Mv rb (W.alloc (.cells #[.int .i64 0, .int .i64 0, .string ⟨#[]⟩, .slice none 0 0, .slice none 0 0] 56)) w v v := by
 have l0 := (Array.getElem?_eq_some_iff.1 h.b0).1
 refine ⟨⟨h.low.os, h.low.tape, h.low.output, by simp; omega, fun k hk _ => ?_⟩, fun _ e _ => e⟩
 by_cases e : k = W.heap.size
 ·subst e
  rw [h.b0]
  exact (blk_new W _).symm
 ·have hk2 : k < W.heap.size := by simp at hk; omega
  rw [h.low.block k hk2]
  exact ((bel (w := W) (w' := W.alloc (.cells #[.int .i64 0, .int .i64 0, .string ⟨#[]⟩, .slice none 0 0, .slice none 0 0] 56))).block k hk2).symm
theorem pcell2 {w : World} {g : Nat} {a b : Value} {T : Nat} (h : w.heap[g]? = some (.cells #[a, b] T (0, 0))) : w.cell? ⟨g, 0, none⟩ = some a ∧ w.cell? ⟨g, 1, none⟩ = some b ∧ g < w.heap.size :=
 have g := pcell h
 ⟨g.1 0 _ rfl, g.1 1 _ rfl, g.2.2⟩
theorem own_conv {w : World} {B n : Nat} {u : Value} {bs : List Value} (h : w.ownsRow B 5 1 u n bs) (hb : ∀ x ∈ bs, ∃ c : Int, x = .int .u8 c) : ∃ z : ByteArray, (convert 49 9 u).run Tryd.prog w = .ok (.string z) w := by
 obtain ⟨l, rfl⟩ : ∃ l : List Int, bs = nums .u8 l := by
  clear h
  induction bs with
  | nil => exact ⟨[], rfl⟩
  | cons x bs ih =>
   obtain ⟨c, rfl⟩ := hb x (by simp)
   obtain ⟨l, rfl⟩ := ih (fun y hy => hb y (by simp [hy]))
   exact ⟨c :: l, rfl⟩
 exact ⟨_, own_string (P := Tryd.prog) Tryd.underlying49 Tryd.underlying5 Tryd.underlying9 h⟩
theorem bytes_app {bs cs : List Value} (h : ∀ x ∈ bs, ∃ c : Int, x = .int .u8 c) (k : ∀ x ∈ cs, ∃ c : Int, x = .int .u8 c) : ∀ x ∈ bs ++ cs, ∃ c : Int, x = .int .u8 c := fun x hx => (List.mem_append.mp hx).elim (h x) (k x)
theorem bytes_rune (r : Int) : ∀ x ∈ Lib.runeCells r, ∃ c : Int, x = .int .u8 c := fun x hx => by
 obtain ⟨c, _, e⟩ := List.mem_map.mp hx
 exact ⟨c, e.symm⟩
theorem strN_eq (t : ByteArray) (k : Nat) (i : Int) : Js.strN t (k + 1) i = if i ≥ (t.size : Int) then -1 else if bt t i < 32 then -1 else if bt t i = 34 then i else if bt t i ≠ 92 then Js.strN t k (i + 1)
  else if i + 1 < (t.size : Int) ∧ Js.mean (bt t (i + 1)) ≠ 0 then Js.strN t k (i + 2)
  else if (Js.esc t i).2 = 0 then -1 else Js.strN t k (i + (Js.esc t i).2) := rfl
set_option maxHeartbeats 4000000 in
set_option maxRecDepth 100000 in
theorem quoted_calls (B rb : Nat) (t : ByteArray) (s : JS) (v : Value) (W : World) (h : Rd B rb t W s v) (hl : s.at_ < (t.size : Int)) :
  Calls Tryd.prog 56 #[.pointer (some ⟨rb, 0, none⟩)] W (PostV B rb t W v (Js.quoted t s)) := by
 have HQ0 := yM (show QI B rb t s v W ((W.alloc (.cells #[.int .i64 0, .int .i64 0, .string ⟨#[]⟩, .slice none 0 0, .slice none 0 0] 56)).alloc (.cells #[.int .i64 125, .int .i64 s.at_] 74)) (.slice none 0 0) 0 [] from
  ⟨h.fr, bel, (bel (w := W.alloc (.cells #[.int .i64 0, .int .i64 0, .string ⟨#[]⟩, .slice none 0 0, .slice none 0 0] 56))).block _ (by simp) |>.trans (blk_new W _), by have := blk_new (W.alloc (.cells #[.int .i64 0, .int .i64 0, .string ⟨#[]⟩, .slice none 0 0, .slice none 0 0] 56)) (.cells #[.int .i64 125, .int .i64 s.at_] 74); simpa using this, ⟨rfl, .inl ⟨rfl, rfl⟩⟩, h.lt, fun k hk => (h.olt k hk).2⟩)
 have HR0 := yM h
 have HP := yM (show Rd B rb t (W.alloc (.cells #[.int .i64 0, .int .i64 0, .string ⟨#[]⟩, .slice none 0 0, .slice none 0 0] 56)) s v from h.fr)
 obtain ⟨c0, c1, _, fr, lt⟩ := HP.out.at_
 have ht := h.ht
 have a0 := h.a0
 have hlW := h.lt
 clear h fr
 have hne : W.heap.size ≠ rb := by omega
 have hne2 : rb ≠ W.heap.size := by omega
 have hne3 : W.heap.size + 1 ≠ rb := by omega
 have hne4 : rb ≠ W.heap.size + 1 := by omega
 obtain ⟨r, hr⟩ : ∃ r, r = Js.quoted t s := ⟨_, rfl⟩
 rw [← hr]
 unfold Js.quoted at hr
 have HR := yM hr
 clear hr
 have e1 : wrap64 (s.at_ + 1) = s.at_ + 1 := w64 _ (by omega)
 go_enter Tryd.func56, Tryd.ntmps56
 go_wp2
 go_loopg [5, 6] t.size (fun kq v5 v6 w' => ∃ (i : Int) (n : Nat) (bs : List Value), v6 = .int .i64 i ∧ Aside0 (s.at_ + 1 ≤ i ∧ (n : Int) ≤ i ∧ i ≤ (t.size : Int) + 12 ∧ (t.size : Int) - i ≤ kq ∧ Js.strN t kq i = Js.strN t t.size (s.at_ + 1)) ∧ Aside0 (QI B rb t s v W w' v5 n bs ∧ ∀ x ∈ bs, ∃ c : Int, x = .int .u8 c))
 case atStart => exact ⟨s.at_ + 1, 0, [], rfl, ⟨by omega, by omega, by omega, by omega, rfl⟩, ⟨HQ0.out, fun x hx => by cases hx⟩⟩
 case round =>
  obtain ⟨i, n, bs, rfl, HE, HQ⟩ := hrel
  obtain ⟨i0, in_, iu, im, ie⟩ := HE.out
  obtain ⟨c0, c1, _, fr, lt⟩ := HQ.out.1.rd.at_
  obtain ⟨d0, d1, dl⟩ := pcell2 HQ.out.1.b1
  clear fr
  have HIE := yM ie
  clear ie
  by_cases g1 : i ≥ (t.size : Int)
  ·have b1 : decide (i ≥ (t.size : Int)) = true := decide_eq_true g1
   have hm1 : Js.strN t t.size (s.at_ + 1) = -1 := by
    rw [← HIE.out]
    cases gk with
    | zero => rfl
    | succ k1 => rw [strN_eq, if_pos g1]
   have hr := HR.out
   rw [hm1, if_pos (by decide)] at hr
   subst hr
   clear g1
   go_wp2
   exact ⟨rfl, rfl, Ch.of_below HQ.out.1.low _⟩
  ·have b1 : decide (i ≥ (t.size : Int)) = false := decide_eq_false g1
   cases gk with
   | zero => exact absurd im (by omega)
   | succ k1 =>
    have ie := HIE.out
    rw [strN_eq, if_neg g1] at ie
    have hx := bt_at t i
    have q0 := eq_true (show 0 ≤ i by omega)
    have hil : i < (t.size : Int) := by omega
    have q1 := eq_true hil
    obtain ⟨r0, r1⟩ := bt_range t i
    clear HIE
    by_cases g2 : bt t i < 32
    ·have b2 : decide (bt t i < 32) = true := decide_eq_true g2
     rw [if_pos g2] at ie
     have hr := HR.out
     rw [← ie, if_pos (by decide)] at hr
     subst hr
     clear g1 g2 ie
     go_wp2
     exact ⟨rfl, rfl, Ch.of_below HQ.out.1.low _⟩
    ·have b2 : decide (bt t i < 32) = false := decide_eq_false g2
     rw [if_neg g2] at ie
     by_cases g3 : bt t i = 34
     ·have b3 : (bt t i == 34) = true := beq_iff_eq.mpr g3
      rw [if_pos g3] at ie
      have hr := HR.out
      rw [← ie, if_neg (show ¬ (i < 0) from by omega)] at hr
      subst hr
      clear g1 g2 g3 ie
      have e2 : wrap64 (i + 1) = i + 1 := w64 _ (by omega)
      have e3 : wrap64 (i + 1 - s.at_) = i + 1 - s.at_ := w64 _ (by omega)
      obtain ⟨z, hz⟩ := own_conv HQ.out.1.own HQ.out.2
      clear hz
      have hle : s.at_ + (i + 1 - s.at_) ≤ (t.size : Int) := by omega
      have hnn : 0 ≤ i + 1 - s.at_ := by omega
      go_wp2_with (go_at_call 71; refine (take_calls B rb t (i + 1 - s.at_) s v _ HQ.out.1.rd hnn hle).mono ?_; rintro e w1 ⟨rfl, v1, hr1, hm1⟩; have HR1 := yM hr1; have HM1 := yM hm1; have hbox : w1.heap[W.heap.size]? = some (.cells #[.int .i64 0, .int .i64 0, .string ⟨#[]⟩, .slice none 0 0, .slice none 0 0] 56 (0, 0)) := (hm1.ch.block _ (Array.getElem?_eq_some_iff.1 HQ.out.1.b0).1 (fun e => e.elim (fun e => hne e) (fun e => by have := HQ.out.1.o _ e; omega))).trans HQ.out.1.b0; obtain ⟨z, hz⟩ := own_conv (own_kept (W' := w1) HQ.out.1.own (fun k hk => hm1.ch.block k (own_lt HQ.out.1.own hk).2 (fun e => e.elim (fun e => by have := (own_lt HQ.out.1.own hk).1; omega) (fun e => by have := HQ.out.1.o _ e; have := (own_lt HQ.out.1.own hk).1; omega)))) HQ.out.2; obtain ⟨y0, y1, y2, y3, y4, yf, yl⟩ := vcells hbox; have HBX := yM hbox; clear hbox hr1 hm1)
      refine bodyPost_ret (v := .agg #[.int .i64 4, .int .i64 s.at_, .string z, .slice none 0 0, .slice none 0 0]) (by simp [results, Tryd.results56, go_sem, *]) rfl ?_
      have hmv : Mv rb (W.alloc (.cells #[.int .i64 0, .int .i64 0, .string ⟨#[]⟩, .slice none 0 0, .slice none 0 0] 56)) w1 v v1 := HQ.out.1.mv.trans HM1.out
      exact ⟨⟨_, _, _, _, _, _, _, _, _, rfl⟩, box_done HR1.out hmv HBX.out (by decide) hlW _ _ _ _ _⟩
     ·have b3 : (bt t i == 34) = false := yB g3
      rw [if_neg g3] at ie
      have e2 : wrap64 (i + 1) = i + 1 := w64 _ (by omega)
      have e3 : wrap64 (i + 2) = i + 2 := w64 _ (by omega)
      by_cases g4 : bt t i ≠ 92
      ·have b4 : (bt t i != 92) = true := bne_iff_ne.mpr g4
       rw [if_pos g4] at ie
       have HIE := yM ie
       clear g1 g2 g3 g4 ie
       go_wp2_with (at_builtin; refine wp_append_byte rfl _ _ rfl (W.heap.size + 2) u5 n bs (bt t i) rfl HQ.out.1.own rfl (by omega) (by have := (Array.getElem?_eq_some_iff.1 HQ.out.1.b1).1; omega) ?_; intro u2 w2 ho hg; have HQ2 := yM (HQ.out.1.grown hg ho))
       go_roundg k1
       case measure => omega
       case rel => exact ⟨i + 1, n + 1, bs ++ [.int .u8 (bt t i)], rfl, ⟨by omega, by omega, by omega, by omega, HIE.out⟩, ⟨HQ2.out, bytes_app HQ.out.2 (fun x hx => by simp at hx; exact ⟨_, hx⟩)⟩⟩
      ·have b4 : (bt t i != 92) = false := by simpa using g4
       rw [if_neg g4] at ie
       have HIE := yM ie
       clear g1 g2 g3 g4 ie
       have HE0 := yM (Js.esc_eq t i (by omega) (by omega))
       have HE1 := yM (Js.escAt_bound t i)
       have hx2 := bt_at t (i + 1)
       have q2 := eq_true (show 0 ≤ i + 1 by omega)
       have HMn := yM (Js.mean_f (bt t (i + 1)) (bt_range t (i + 1)).1 (bt_range t (i + 1)).2)
       by_cases h1 : i + 1 < (t.size : Int) ∧ Js.mean (bt t (i + 1)) ≠ 0
       ·have ie := HIE.out
        rw [if_pos h1] at ie
        have HIE := yM ie
        clear ie HE0 HE1
        have q3 := eq_true h1.1
        have b5 : decide (i + 1 < (t.size : Int)) = true := decide_eq_true h1.1
        have b6 : (Js.mean (bt t (i + 1)) != 0) = true := bne_iff_ne.mpr h1.2
        have h11 := h1.1
        clear h1
        go_wp2_with first
         | (go_at_call 73; refine (json_meant.calls 10 _ _ _ HMn.out.1).mono ?_; rintro e w2 ⟨rfl, hd⟩; obtain ⟨n2, hd⟩ := hd.out; subst hd)
         | (at_builtin; refine wp_append_byte rfl _ _ rfl (W.heap.size + 2) u5 n bs (Js.mean (bt t (i + 1))) rfl HQ.out.1.fr.own rfl (by omega) (by have := (Array.getElem?_eq_some_iff.1 HQ.out.1.b1).1; simp; omega) ?_; intro u2 w2 ho hg; have HQ2 := yM (HQ.out.1.fr.grown hg ho))
        go_roundg k1
        case measure => omega
        case rel => exact ⟨i + 2, n + 1, bs ++ [.int .u8 (Js.mean (bt t (i + 1)))], rfl, ⟨by omega, by omega, by omega, by omega, HIE.out⟩, ⟨HQ2.out, bytes_app HQ.out.2 (fun x hx => by simp at hx; exact ⟨_, hx⟩)⟩⟩
       ·have ie := HIE.out
        rw [if_neg h1, HE0.out.1] at ie
        have HIE := yM ie
        clear ie
        obtain ⟨x, en, hesc⟩ : ∃ x en, Js.escAt t i = (x, en) := ⟨_, _, rfl⟩
        have he0 := HE0.out.2
        have he1 := HE1.out
        have ie := HIE.out
        rw [hesc] at he0 he1 ie
        dsimp only at he1 ie
        have HE0 := yM he0
        have HIE := yM ie
        obtain ⟨hn, x0, x1⟩ := he1
        have hb7 : ((if i + 1 < (t.size : Int) then Js.mean (bt t (i + 1)) != 0 else false) = false) := by
         by_cases g : i + 1 < (t.size : Int)
         ·rw [if_pos g]
          exact Bool.eq_false_iff.mpr (fun e => h1 ⟨g, bne_iff_ne.mp e⟩)
         ·rw [if_neg g]
        have HB7 := yM hb7
        have q4 : (0 ≤ i) = True := q0
        have q5 := eq_true (show i ≤ (t.size : Int) by omega)
        clear hesc he0 ie h1 hb7 HE1
        by_cases h0 : en = 0
        ·have ie := HIE.out
         rw [if_pos h0] at ie
         have hr := HR.out
         rw [← ie, if_pos (by decide)] at hr
         subst hr h0
         clear ie
         by_cases g : i + 1 < (t.size : Int)
         ·have q3 := eq_true g
          have b5 : decide (i + 1 < (t.size : Int)) = true := decide_eq_true g
          have b6 : (Js.mean (bt t (i + 1)) != 0) = false := by have := HB7.out; rw [if_pos g] at this; exact this
          go_wp2_with first
           | (go_at_call 73; refine (json_meant.calls 10 _ _ _ HMn.out.1).mono ?_; rintro e w2 ⟨rfl, hd⟩; obtain ⟨n2, hd⟩ := hd.out; subst hd)
           | (go_at_call 74; refine (json_escaped.calls 40 _ _ _ _ HE0.out).mono ?_; rintro e w2 ⟨rfl, hd⟩; obtain ⟨n2, hd⟩ := hd.out; subst hd)
          exact ⟨rfl, rfl, Ch.of_below HQ.out.1.fr.low _⟩
         ·have b5 : decide (i + 1 < (t.size : Int)) = false := decide_eq_false g
          go_wp2_with first
           | (go_at_call 74; refine (json_escaped.calls 40 _ _ _ _ HE0.out).mono ?_; rintro e w2 ⟨rfl, hd⟩; obtain ⟨n2, hd⟩ := hd.out; subst hd)
          exact ⟨rfl, rfl, Ch.of_below HQ.out.1.fr.low _⟩
        ·have ie := HIE.out
         rw [if_neg h0] at ie
         have HIE := yM ie
         have b7 : (en == 0) = false := yB h0
         have e8 : wrap64 (i + en) = i + en := w64 _ (by omega)
         have hen : en = 6 ∨ en = 12 := by omega
         have hrl := (Lib.runeCells_le x).2
         clear ie h0 hn
         by_cases g : i + 1 < (t.size : Int)
         ·have q3 := eq_true g
          have b5 : decide (i + 1 < (t.size : Int)) = true := decide_eq_true g
          have b6 : (Js.mean (bt t (i + 1)) != 0) = false := by have := HB7.out; rw [if_pos g] at this; exact this
          go_wp2_with first
           | (go_at_call 73; refine (json_meant.calls 10 _ _ _ HMn.out.1).mono ?_; rintro e w2 ⟨rfl, hd⟩; obtain ⟨n2, hd⟩ := hd.out; subst hd)
           | (go_at_call 74; refine (json_escaped.calls 40 _ _ _ _ HE0.out).mono ?_; rintro e w2 ⟨rfl, hd⟩; obtain ⟨n2, hd⟩ := hd.out; subst hd)
           | (go_at_call 75; refine (Tryd.utf8_AppendRune_plain (W.heap.size + 2) u5 n bs x (by omega) (by omega) _ HQ.out.1.fr.own (by omega) (by have := (Array.getElem?_eq_some_iff.1 HQ.out.1.b1).1; simp; omega)).mono ?_; rintro e w2 ⟨u2, rfl, ho, oo, hg⟩; have HQ2 := yM (HQ.out.1.fr.grown hg ho))
          go_roundg k1
          case measure => omega
          case rel => exact ⟨i + en, n + (Lib.runeCells x).length, bs ++ Lib.runeCells x, rfl, ⟨by omega, by omega, by omega, by omega, HIE.out⟩, ⟨HQ2.out, bytes_app HQ.out.2 (bytes_rune x)⟩⟩
         ·have b5 : decide (i + 1 < (t.size : Int)) = false := decide_eq_false g
          go_wp2_with first
           | (go_at_call 74; refine (json_escaped.calls 40 _ _ _ _ HE0.out).mono ?_; rintro e w2 ⟨rfl, hd⟩; obtain ⟨n2, hd⟩ := hd.out; subst hd)
           | (go_at_call 75; refine (Tryd.utf8_AppendRune_plain (W.heap.size + 2) u5 n bs x (by omega) (by omega) _ HQ.out.1.fr.own (by omega) (by have := (Array.getElem?_eq_some_iff.1 HQ.out.1.b1).1; simp; omega)).mono ?_; rintro e w2 ⟨u2, rfl, ho, oo, hg⟩; have HQ2 := yM (HQ.out.1.fr.grown hg ho))
          go_roundg k1
          case measure => omega
          case rel => exact ⟨i + en, n + (Lib.runeCells x).length, bs ++ Lib.runeCells x, rfl, ⟨by omega, by omega, by omega, by omega, HIE.out⟩, ⟨HQ2.out, bytes_app HQ.out.2 (bytes_rune x)⟩⟩
def VOK (B rb : Nat) (t : ByteArray) (k : Nat) : Prop := ∀ s r, Js.value t k s = some r → ∀ W v, Rd B rb t W s v → Calls Tryd.prog 30 #[.pointer (some ⟨rb, 0, none⟩)] W (PostV B rb t W v r)
def OOK (B rb : Nat) (t : ByteArray) (k : Nat) : Prop := ∀ s r, Js.object t k s = some r → ∀ W v, Rd B rb t W s v → s.at_ < (t.size : Int) → Calls Tryd.prog 54 #[.pointer (some ⟨rb, 0, none⟩)] W (PostV B rb t W v r)
def AOK (B rb : Nat) (t : ByteArray) (k : Nat) : Prop := ∀ s r, Js.array t k s = some r → ∀ W v, Rd B rb t W s v → s.at_ < (t.size : Int) → Calls Tryd.prog 55 #[.pointer (some ⟨rb, 0, none⟩)] W (PostV B rb t W v r)
theorem peek_ok {t : ByteArray} {s s1 : JS} {c : Int} (h : Js.peek t s = .ok (c, s1)) (ha : s.at_ ≤ (t.size : Int)) : s1.at_ < (t.size : Int) ∧ 0 ≤ c ∧ c < 256 := by
 have hb := Js.skip_bound t _ s.at_ rfl ha
 unfold Js.peek at h
 by_cases g : Js.skip t s.at_ = (t.size : Int)
 ·rw [if_pos g] at h; cases h
 ·rw [if_neg g] at h
  injection h with h
  injection h with h1 h2
  subst h1 h2
  have := bt_range t (Js.skip t s.at_)
  exact ⟨by show Js.skip t s.at_ < _; omega, this.1, by omega⟩
theorem beg_calls (B rb : Nat) (t : ByteArray) (k : Nat) (hO : OOK B rb t k) (hA : AOK B rb t k) (c : Int) (f : FuncId) (s1 : JS) (r : JR JS) (hb : beg c = some f)
  (hr : (if c = 123 then Js.object t k s1 else if c = 91 then Js.array t k s1 else if c = 34 then some (Js.quoted t s1)
   else if c = 116 then some (Js.word t ⟨#[116, 114, 117, 101]⟩ s1) else if c = 102 then some (Js.word t ⟨#[102, 97, 108, 115, 101]⟩ s1) else if c = 110 then some (Js.word t ⟨#[110, 117, 108, 108]⟩ s1)
   else if c = 45 ∨ (48 ≤ c ∧ c ≤ 57) then some (Js.number t s1) else some (.error (120, s1.at_))) = some r) (W : World) (v : Value) (h : Rd B rb t W s1 v) (hl : s1.at_ < (t.size : Int)) :
  Calls Tryd.prog f #[.pointer (some ⟨rb, 0, none⟩)] W (PostV B rb t W v r) := by
 unfold beg at hb
 by_cases g : c = 123
 ·rw [if_pos g] at hb hr; obtain rfl := Option.some.inj hb; exact hO _ _ hr W v h hl
 rw [if_neg g] at hb hr
 by_cases g : c = 91
 ·rw [if_pos g] at hb hr; obtain rfl := Option.some.inj hb; exact hA _ _ hr W v h hl
 rw [if_neg g] at hb hr
 by_cases g : c = 34
 ·rw [if_pos g] at hb hr; obtain rfl := Option.some.inj hb; obtain rfl := Option.some.inj hr; exact quoted_calls B rb t s1 v W h hl
 rw [if_neg g] at hb hr
 by_cases g : c = 116
 ·rw [if_pos g] at hb hr; obtain rfl := Option.some.inj hb; obtain rfl := Option.some.inj hr; exact begins57_calls B rb t s1 v W h
 rw [if_neg g] at hb hr
 by_cases g : c = 102
 ·rw [if_pos g] at hb hr; obtain rfl := Option.some.inj hb; obtain rfl := Option.some.inj hr; exact begins59_calls B rb t s1 v W h
 rw [if_neg g] at hb hr
 by_cases g : c = 110
 ·rw [if_pos g] at hb hr; obtain rfl := Option.some.inj hb; obtain rfl := Option.some.inj hr; exact begins60_calls B rb t s1 v W h
 rw [if_neg g] at hb hr
 by_cases g : c = 45 ∨ (48 ≤ c ∧ c ≤ 57)
 ·rw [if_pos g] at hb hr; obtain rfl := Option.some.inj hb; obtain rfl := Option.some.inj hr; exact number_calls B rb t s1 v W h hl
 rw [if_neg g] at hb
 cases hb
theorem beg_in {c : Int} {f : FuncId} (h : beg c = some f) : f = 54 ∨ f = 55 ∨ f = 56 ∨ f = 57 ∨ f = 59 ∨ f = 60 ∨ f = 61 := by
 unfold beg at h
 repeat' split at h
 all_goals first
  | (obtain rfl := Option.some.inj h; decide)
  | cases h
theorem PostV.err {B rb : Nat} {t : ByteArray} {W w1 w2 : World} {v v1 : Value} {x : Int × Int} {e : Ending} (hm : Mv rb W w1 v v1) (h : PostV B rb t w1 v1 (.error x) e w2) : PostV B rb t W v (.error x) e w2 :=
 ⟨h.1, (hm.trans (v1 := v1) (v2 := v1) ⟨h.2, fun _ e _ => e⟩).ch⟩
theorem fnil (f : FuncId) (w : World) : (binOp .eql 93 (.func (.func f) #[] #[]) .nilFunc).run Tryd.prog w = .ok (.bool false) w := by
 have hu := Tryd.underlying93
 have h : ∀ d : Nat, (Op.equalIn (d + 1) 93 (.func (.func f) #[] #[]) .nilFunc).run Tryd.prog w = .ok false w := fun d => by
  simp [Op.equalIn, run_underlying hu]
 simp only [binOp]
 simp [Op.equal, Op.maxDepth, h 9999]
theorem fnil0 (w : World) : (binOp .eql 93 .nilFunc .nilFunc).run Tryd.prog w = .ok (.bool true) w := by
 have hu := Tryd.underlying93
 have h : ∀ d : Nat, (Op.equalIn (d + 1) 93 .nilFunc .nilFunc).run Tryd.prog w = .ok true w := fun d => by
  simp [Op.equalIn, run_underlying hu]
 simp only [binOp]
 simp [Op.equal, Op.maxDepth, h 9999]
set_option maxHeartbeats 4000000 in
set_option maxRecDepth 100000 in
theorem value_calls (B rb : Nat) (t : ByteArray) (k : Nat) (hO : OOK B rb t k) (hA : AOK B rb t k) : VOK B rb t (k + 1) := by
 intro s r hr W v h
 have HP := yM (show Rd B rb t (W.alloc (.cells #[.int .i64 0, .int .i64 0, .string ⟨#[]⟩, .slice none 0 0, .slice none 0 0] 56)) s v from h.fr)
 have HR0 := yM h
 have hlW := h.lt
 have hne : W.heap.size ≠ rb := by omega
 have hne2 : rb ≠ W.heap.size := by omega
 have HPK := yM (peek_calls B rb t s v _ HP.out)
 have HA1 := yM h.a1
 clear h
 unfold Js.value at hr
 rcases hp : Js.peek t s with x | ⟨c, s1⟩
 ·rw [hp] at hr HPK
  dsimp only at hr
  obtain rfl := Option.some.inj hr
  clear hr
  go_enter Tryd.func30, Tryd.ntmps30
  go_wp2_with (go_at_call 42; refine HPK.out.mono ?_; rintro e w1 ⟨rfl, hc⟩; exact ⟨rfl, rfl, ch_alloc hc⟩)
 ·rw [hp] at hr HPK
  dsimp only at hr
  obtain ⟨hl1, hc0, hc1⟩ := peek_ok hp HA1.out
  have HL := yM hl1
  have HB := yM (begins_calls c hc0 hc1)
  clear hl1 hc0 hc1 hp
  rcases hb : beg c with _ | f
  ·have hr2 : r = .error (120, s1.at_) := by
    unfold beg at hb
    by_cases g : c = 123
    ·rw [if_pos g] at hb; cases hb
    rw [if_neg g] at hb hr
    by_cases g : c = 91
    ·rw [if_pos g] at hb; cases hb
    rw [if_neg g] at hb hr
    by_cases g : c = 34
    ·rw [if_pos g] at hb; cases hb
    rw [if_neg g] at hb hr
    by_cases g : c = 116
    ·rw [if_pos g] at hb; cases hb
    rw [if_neg g] at hb hr
    by_cases g : c = 102
    ·rw [if_pos g] at hb; cases hb
    rw [if_neg g] at hb hr
    by_cases g : c = 110
    ·rw [if_pos g] at hb; cases hb
    rw [if_neg g] at hb hr
    by_cases g : c = 45 ∨ (48 ≤ c ∧ c ≤ 57)
    ·rw [if_pos g] at hb; cases hb
    rw [if_neg g] at hr
    exact (Option.some.inj hr).symm
   subst hr2
   rw [hb] at HB
   have HB2 := yM (show ∀ W, Calls Tryd.prog 41 #[.int .u8 c] W fun e w' => e = .returned .nilFunc ∧ w' = W from HB.out)
   clear hr HB hb
   have hfn := fnil0
   go_enter Tryd.func30, Tryd.ntmps30
   go_wp2_with first
    | (go_at_call 42; refine HPK.out.mono ?_; rintro e w1 ⟨rfl, v1, hr1, hm1⟩; have HR1 := yM hr1; have HM1 := yM hm1; obtain ⟨_, c1, _, fr, lt⟩ := hr1.at_; clear hr1 hm1 fr)
    | (go_at_call 41; refine (HB2.out _).mono ?_; rintro e w2 ⟨rfl, rfl⟩)
   exact ⟨rfl, rfl, ch_alloc HM1.out.ch⟩
  ·rw [hb] at HB
   have HF := yM (beg_calls B rb t k hO hA c f s1 r hb hr)
   rcases beg_in hb with rfl | rfl | rfl | rfl | rfl | rfl | rfl
   ·have HB2 := yM (show ∀ W, Calls Tryd.prog 41 #[.int .u8 c] W fun e w' => e = .returned (.func (.func 54) #[] #[]) ∧ w' = W from HB.out)
    have hfn := fnil 54
    clear hr HB hb
    go_enter Tryd.func30, Tryd.ntmps30
    go_wp2_with first
     | (go_at_call 42; refine HPK.out.mono ?_; rintro e w1 ⟨rfl, v1, hr1, hm1⟩; have HR1 := yM hr1; have HM1 := yM hm1; clear hr1 hm1)
     | (go_at_call 41; refine (HB2.out _).mono ?_; rintro e w2 ⟨rfl, rfl⟩)
    refine (HF.out _ v1 HR1.out HL.out).mono ?_
    rcases r with x | s2
    ·rintro e w2 hU
     obtain ⟨rfl, hc⟩ := PostV.err HM1.out hU
     exact ⟨rfl, rfl, ch_alloc hc⟩
    ·rintro e w2 ⟨⟨q, a, x, A, n, c', A2, n2, c2, rfl⟩, v2, hr2, hm2⟩
     have HR2 := yM hr2
     have HM2 := yM (HM1.out.trans hm2)
     have hbox := Mv.box HM2.out hlW (fun k hk => (HR0.out.olt k hk).2)
     obtain ⟨y0, y1, y2, y3, y4, yf, yl⟩ := vcells hbox
     have HBX := yM hbox
     clear hbox hr2 hm2
     go_wp2
     refine bodyPost_ret (v := .agg #[.int .i64 q, .int .i64 a, .string x, .slice A n c', .slice A2 n2 c2]) (by simp [results, Tryd.results30, go_sem, *]) rfl ?_
     exact ⟨⟨_, _, _, _, _, _, _, _, _, rfl⟩, box_done HR2.out HM2.out HBX.out (by decide) hlW _ _ _ _ _⟩
   ·have HB2 := yM (show ∀ W, Calls Tryd.prog 41 #[.int .u8 c] W fun e w' => e = .returned (.func (.func 55) #[] #[]) ∧ w' = W from HB.out)
    have hfn := fnil 55
    clear hr HB hb
    go_enter Tryd.func30, Tryd.ntmps30
    go_wp2_with first
     | (go_at_call 42; refine HPK.out.mono ?_; rintro e w1 ⟨rfl, v1, hr1, hm1⟩; have HR1 := yM hr1; have HM1 := yM hm1; clear hr1 hm1)
     | (go_at_call 41; refine (HB2.out _).mono ?_; rintro e w2 ⟨rfl, rfl⟩)
    refine (HF.out _ v1 HR1.out HL.out).mono ?_
    rcases r with x | s2
    ·rintro e w2 hU
     obtain ⟨rfl, hc⟩ := PostV.err HM1.out hU
     exact ⟨rfl, rfl, ch_alloc hc⟩
    ·rintro e w2 ⟨⟨q, a, x, A, n, c', A2, n2, c2, rfl⟩, v2, hr2, hm2⟩
     have HR2 := yM hr2
     have HM2 := yM (HM1.out.trans hm2)
     have hbox := Mv.box HM2.out hlW (fun k hk => (HR0.out.olt k hk).2)
     obtain ⟨y0, y1, y2, y3, y4, yf, yl⟩ := vcells hbox
     have HBX := yM hbox
     clear hbox hr2 hm2
     go_wp2
     refine bodyPost_ret (v := .agg #[.int .i64 q, .int .i64 a, .string x, .slice A n c', .slice A2 n2 c2]) (by simp [results, Tryd.results30, go_sem, *]) rfl ?_
     exact ⟨⟨_, _, _, _, _, _, _, _, _, rfl⟩, box_done HR2.out HM2.out HBX.out (by decide) hlW _ _ _ _ _⟩
   ·have HB2 := yM (show ∀ W, Calls Tryd.prog 41 #[.int .u8 c] W fun e w' => e = .returned (.func (.func 56) #[] #[]) ∧ w' = W from HB.out)
    have hfn := fnil 56
    clear hr HB hb
    go_enter Tryd.func30, Tryd.ntmps30
    go_wp2_with first
     | (go_at_call 42; refine HPK.out.mono ?_; rintro e w1 ⟨rfl, v1, hr1, hm1⟩; have HR1 := yM hr1; have HM1 := yM hm1; clear hr1 hm1)
     | (go_at_call 41; refine (HB2.out _).mono ?_; rintro e w2 ⟨rfl, rfl⟩)
    refine (HF.out _ v1 HR1.out HL.out).mono ?_
    rcases r with x | s2
    ·rintro e w2 hU
     obtain ⟨rfl, hc⟩ := PostV.err HM1.out hU
     exact ⟨rfl, rfl, ch_alloc hc⟩
    ·rintro e w2 ⟨⟨q, a, x, A, n, c', A2, n2, c2, rfl⟩, v2, hr2, hm2⟩
     have HR2 := yM hr2
     have HM2 := yM (HM1.out.trans hm2)
     have hbox := Mv.box HM2.out hlW (fun k hk => (HR0.out.olt k hk).2)
     obtain ⟨y0, y1, y2, y3, y4, yf, yl⟩ := vcells hbox
     have HBX := yM hbox
     clear hbox hr2 hm2
     go_wp2
     refine bodyPost_ret (v := .agg #[.int .i64 q, .int .i64 a, .string x, .slice A n c', .slice A2 n2 c2]) (by simp [results, Tryd.results30, go_sem, *]) rfl ?_
     exact ⟨⟨_, _, _, _, _, _, _, _, _, rfl⟩, box_done HR2.out HM2.out HBX.out (by decide) hlW _ _ _ _ _⟩
   ·have HB2 := yM (show ∀ W, Calls Tryd.prog 41 #[.int .u8 c] W fun e w' => e = .returned (.func (.func 57) #[] #[]) ∧ w' = W from HB.out)
    have hfn := fnil 57
    clear hr HB hb
    go_enter Tryd.func30, Tryd.ntmps30
    go_wp2_with first
     | (go_at_call 42; refine HPK.out.mono ?_; rintro e w1 ⟨rfl, v1, hr1, hm1⟩; have HR1 := yM hr1; have HM1 := yM hm1; clear hr1 hm1)
     | (go_at_call 41; refine (HB2.out _).mono ?_; rintro e w2 ⟨rfl, rfl⟩)
    refine (HF.out _ v1 HR1.out HL.out).mono ?_
    rcases r with x | s2
    ·rintro e w2 hU
     obtain ⟨rfl, hc⟩ := PostV.err HM1.out hU
     exact ⟨rfl, rfl, ch_alloc hc⟩
    ·rintro e w2 ⟨⟨q, a, x, A, n, c', A2, n2, c2, rfl⟩, v2, hr2, hm2⟩
     have HR2 := yM hr2
     have HM2 := yM (HM1.out.trans hm2)
     have hbox := Mv.box HM2.out hlW (fun k hk => (HR0.out.olt k hk).2)
     obtain ⟨y0, y1, y2, y3, y4, yf, yl⟩ := vcells hbox
     have HBX := yM hbox
     clear hbox hr2 hm2
     go_wp2
     refine bodyPost_ret (v := .agg #[.int .i64 q, .int .i64 a, .string x, .slice A n c', .slice A2 n2 c2]) (by simp [results, Tryd.results30, go_sem, *]) rfl ?_
     exact ⟨⟨_, _, _, _, _, _, _, _, _, rfl⟩, box_done HR2.out HM2.out HBX.out (by decide) hlW _ _ _ _ _⟩
   ·have HB2 := yM (show ∀ W, Calls Tryd.prog 41 #[.int .u8 c] W fun e w' => e = .returned (.func (.func 59) #[] #[]) ∧ w' = W from HB.out)
    have hfn := fnil 59
    clear hr HB hb
    go_enter Tryd.func30, Tryd.ntmps30
    go_wp2_with first
     | (go_at_call 42; refine HPK.out.mono ?_; rintro e w1 ⟨rfl, v1, hr1, hm1⟩; have HR1 := yM hr1; have HM1 := yM hm1; clear hr1 hm1)
     | (go_at_call 41; refine (HB2.out _).mono ?_; rintro e w2 ⟨rfl, rfl⟩)
    refine (HF.out _ v1 HR1.out HL.out).mono ?_
    rcases r with x | s2
    ·rintro e w2 hU
     obtain ⟨rfl, hc⟩ := PostV.err HM1.out hU
     exact ⟨rfl, rfl, ch_alloc hc⟩
    ·rintro e w2 ⟨⟨q, a, x, A, n, c', A2, n2, c2, rfl⟩, v2, hr2, hm2⟩
     have HR2 := yM hr2
     have HM2 := yM (HM1.out.trans hm2)
     have hbox := Mv.box HM2.out hlW (fun k hk => (HR0.out.olt k hk).2)
     obtain ⟨y0, y1, y2, y3, y4, yf, yl⟩ := vcells hbox
     have HBX := yM hbox
     clear hbox hr2 hm2
     go_wp2
     refine bodyPost_ret (v := .agg #[.int .i64 q, .int .i64 a, .string x, .slice A n c', .slice A2 n2 c2]) (by simp [results, Tryd.results30, go_sem, *]) rfl ?_
     exact ⟨⟨_, _, _, _, _, _, _, _, _, rfl⟩, box_done HR2.out HM2.out HBX.out (by decide) hlW _ _ _ _ _⟩
   ·have HB2 := yM (show ∀ W, Calls Tryd.prog 41 #[.int .u8 c] W fun e w' => e = .returned (.func (.func 60) #[] #[]) ∧ w' = W from HB.out)
    have hfn := fnil 60
    clear hr HB hb
    go_enter Tryd.func30, Tryd.ntmps30
    go_wp2_with first
     | (go_at_call 42; refine HPK.out.mono ?_; rintro e w1 ⟨rfl, v1, hr1, hm1⟩; have HR1 := yM hr1; have HM1 := yM hm1; clear hr1 hm1)
     | (go_at_call 41; refine (HB2.out _).mono ?_; rintro e w2 ⟨rfl, rfl⟩)
    refine (HF.out _ v1 HR1.out HL.out).mono ?_
    rcases r with x | s2
    ·rintro e w2 hU
     obtain ⟨rfl, hc⟩ := PostV.err HM1.out hU
     exact ⟨rfl, rfl, ch_alloc hc⟩
    ·rintro e w2 ⟨⟨q, a, x, A, n, c', A2, n2, c2, rfl⟩, v2, hr2, hm2⟩
     have HR2 := yM hr2
     have HM2 := yM (HM1.out.trans hm2)
     have hbox := Mv.box HM2.out hlW (fun k hk => (HR0.out.olt k hk).2)
     obtain ⟨y0, y1, y2, y3, y4, yf, yl⟩ := vcells hbox
     have HBX := yM hbox
     clear hbox hr2 hm2
     go_wp2
     refine bodyPost_ret (v := .agg #[.int .i64 q, .int .i64 a, .string x, .slice A n c', .slice A2 n2 c2]) (by simp [results, Tryd.results30, go_sem, *]) rfl ?_
     exact ⟨⟨_, _, _, _, _, _, _, _, _, rfl⟩, box_done HR2.out HM2.out HBX.out (by decide) hlW _ _ _ _ _⟩
   ·have HB2 := yM (show ∀ W, Calls Tryd.prog 41 #[.int .u8 c] W fun e w' => e = .returned (.func (.func 61) #[] #[]) ∧ w' = W from HB.out)
    have hfn := fnil 61
    clear hr HB hb
    go_enter Tryd.func30, Tryd.ntmps30
    go_wp2_with first
     | (go_at_call 42; refine HPK.out.mono ?_; rintro e w1 ⟨rfl, v1, hr1, hm1⟩; have HR1 := yM hr1; have HM1 := yM hm1; clear hr1 hm1)
     | (go_at_call 41; refine (HB2.out _).mono ?_; rintro e w2 ⟨rfl, rfl⟩)
    refine (HF.out _ v1 HR1.out HL.out).mono ?_
    rcases r with x | s2
    ·rintro e w2 hU
     obtain ⟨rfl, hc⟩ := PostV.err HM1.out hU
     exact ⟨rfl, rfl, ch_alloc hc⟩
    ·rintro e w2 ⟨⟨q, a, x, A, n, c', A2, n2, c2, rfl⟩, v2, hr2, hm2⟩
     have HR2 := yM hr2
     have HM2 := yM (HM1.out.trans hm2)
     have hbox := Mv.box HM2.out hlW (fun k hk => (HR0.out.olt k hk).2)
     obtain ⟨y0, y1, y2, y3, y4, yf, yl⟩ := vcells hbox
     have HBX := yM hbox
     clear hbox hr2 hm2
     go_wp2
     refine bodyPost_ret (v := .agg #[.int .i64 q, .int .i64 a, .string x, .slice A n c', .slice A2 n2 c2]) (by simp [results, Tryd.results30, go_sem, *]) rfl ?_
     exact ⟨⟨_, _, _, _, _, _, _, _, _, rfl⟩, box_done HR2.out HM2.out HBX.out (by decide) hlW _ _ _ _ _⟩
end Go.Proofs.YtbpiahpkbapijaaDoor.J
end
section
namespace Go.Proofs.YtbpiahpkbapijaaDoor.J
open Go.RowKit Go.Proofs.YtbpiahpkbapijaaDoorW.PrintWords Go.Proofs.YtbpiahpkbapijaaDoorW.PrintLast Go.Proofs.YtbpiahpkbapijaaDoorW.PrintMore
set_option linter.unusedVariables false
set_option linter.unusedSimpArgs false
theorem Js.peek_keep {t : ByteArray} {s s1 : JS} {c : Int} (h : Js.peek t s = .ok (c, s1)) : s1.op = s.op := by
 unfold Js.peek at h
 split at h
 ·cases h
 ·injection h with h
  injection h with _ h
  subst h; rfl
theorem Js.sign_keep {t l : ByteArray} {s s1 : JS} {c : Int} (h : Js.sign t l s = .ok (c, s1)) : s1.op = s.op := by
 unfold Js.sign at h
 rcases hp : Js.peek t s with x | ⟨d, s2⟩
 ·rw [hp] at h; cases h
 ·rw [hp] at h
  dsimp only at h
  split at h
  ·injection h with h
   injection h with _ h
   subst h
   show s2.op = s.op
   exact Js.peek_keep hp
  ·cases h
theorem Js.bracket_keep {t : ByteArray} {s s1 : JS} (h : Js.bracket t s = .ok s1) : s1.op = s.op + 1 := by
 unfold Js.bracket at h
 split at h
 ·cases h
 ·injection h with h
  subst h; rfl
theorem Js.quoted_keep {t : ByteArray} {s s1 : JS} (h : Js.quoted t s = .ok s1) : s1.op = s.op := by
 unfold Js.quoted at h
 split at h
 ·cases h
 ·injection h with h
  subst h; rfl
theorem Js.word_keep {t x : ByteArray} {s s1 : JS} (h : Js.word t x s = .ok s1) : s1.op = s.op := by
 unfold Js.word at h
 split at h
 ·injection h with h
  subst h; rfl
 ·cases h
theorem Js.number_keep {t : ByteArray} {s s1 : JS} (h : Js.number t s = .ok s1) : s1.op = s.op := by
 unfold Js.number at h
 split at h
 ·cases h
 ·injection h with h
  subst h; rfl
theorem Js.keep (t : ByteArray) : ∀ k, (∀ s s1, Js.value t k s = some (.ok s1) → s1.op = s.op) ∧ (∀ s s1, Js.array t k s = some (.ok s1) → s1.op = s.op) ∧ (∀ s s1, Js.elems t k s = some (.ok s1) → s1.op = s.op - 1) ∧ (∀ s s1, Js.object t k s = some (.ok s1) → s1.op = s.op) ∧ (∀ s s1, Js.members t k s = some (.ok s1) → s1.op = s.op - 1)
 | 0 => ⟨fun _ _ h => by simp [Js.value] at h, fun _ _ h => by simp [Js.array] at h, fun _ _ h => by simp [Js.elems] at h, fun _ _ h => by simp [Js.object] at h, fun _ _ h => by simp [Js.members] at h⟩
 | k + 1 => by
  obtain ⟨iv, ia, ie, io, im⟩ := Js.keep t k
  refine ⟨fun s s1 h => ?_, fun s s1 h => ?_, fun s s1 h => ?_, fun s s1 h => ?_, fun s s1 h => ?_⟩
  ·unfold Js.value at h
   rcases hp : Js.peek t s with x | ⟨c, s2⟩
   ·rw [hp] at h; cases h
   ·rw [hp] at h
    dsimp only at h
    have hk := Js.peek_keep hp
    repeat' split at h
    ·rw [io _ _ h, hk]
    ·rw [ia _ _ h, hk]
    ·rw [Js.quoted_keep (Option.some.inj h), hk]
    ·rw [Js.word_keep (Option.some.inj h), hk]
    ·rw [Js.word_keep (Option.some.inj h), hk]
    ·rw [Js.word_keep (Option.some.inj h), hk]
    ·rw [Js.number_keep (Option.some.inj h), hk]
    ·cases h
  ·unfold Js.array at h
   rcases hb : Js.bracket t s with x | s2
   ·rw [hb] at h; cases h
   ·rw [hb] at h
    dsimp only at h
    have hk := Js.bracket_keep hb
    rcases hp : Js.peek t s2 with x | ⟨c, s3⟩
    ·rw [hp] at h; cases h
    ·rw [hp] at h
     dsimp only at h
     have hk2 := Js.peek_keep hp
     split at h
     ·injection h with h
      injection h with h
      subst h
      show s3.op - 1 = s.op
      omega
     ·have := ie _ _ h
      omega
  ·unfold Js.elems at h
   rcases hv : Js.value t k s with _ | x | s2
   ·rw [hv] at h; cases h
   ·rw [hv] at h; cases h
   ·rw [hv] at h
    dsimp only at h
    have hk := iv _ _ hv
    rcases hp : Js.sign t ⟨#[44, 93]⟩ s2 with x | ⟨c, s3⟩
    ·rw [hp] at h; cases h
    ·rw [hp] at h
     dsimp only at h
     have hk2 := Js.sign_keep hp
     split at h
     ·have := ie _ _ h
      omega
     ·injection h with h
      injection h with h
      subst h
      show s3.op - 1 = s.op - 1
      omega
  ·unfold Js.object at h
   rcases hb : Js.bracket t s with x | s2
   ·rw [hb] at h; cases h
   ·rw [hb] at h
    dsimp only at h
    have hk := Js.bracket_keep hb
    rcases hp : Js.peek t s2 with x | ⟨c, s3⟩
    ·rw [hp] at h; cases h
    ·rw [hp] at h
     dsimp only at h
     have hk2 := Js.peek_keep hp
     split at h
     ·injection h with h
      injection h with h
      subst h
      show s3.op - 1 = s.op
      omega
     ·have := im _ _ h
      omega
  ·unfold Js.members at h
   rcases hp : Js.peek t s with x | ⟨c, s2⟩
   ·rw [hp] at h; cases h
   ·rw [hp] at h
    dsimp only at h
    have hk := Js.peek_keep hp
    split at h
    ·rcases hq : Js.quoted t s2 with x | s3
     ·rw [hq] at h; cases h
     ·rw [hq] at h
      dsimp only at h
      have hk2 := Js.quoted_keep hq
      rcases hs : Js.sign t ⟨#[58]⟩ s3 with x | ⟨d, s4⟩
      ·rw [hs] at h; cases h
      ·rw [hs] at h
       dsimp only at h
       have hk3 := Js.sign_keep hs
       rcases hv : Js.value t k s4 with _ | x | s5
       ·rw [hv] at h; cases h
       ·rw [hv] at h; cases h
       ·rw [hv] at h
        dsimp only at h
        have hk4 := iv _ _ hv
        rcases hp2 : Js.sign t ⟨#[44, 125]⟩ s5 with x | ⟨c2, s6⟩
        ·rw [hp2] at h; cases h
        ·rw [hp2] at h
         dsimp only at h
         have hk5 := Js.sign_keep hp2
         split at h
         ·have := im _ _ h
          omega
         ·injection h with h
          injection h with h
          subst h
          show s6.op - 1 = s.op - 1
          omega
    ·cases h
theorem info56 : (Tryd.prog.info? 56).map (fun i => (i.zero, i.size, i.bytes)) = some (some (.agg #[.int .i64 0, .int .i64 0, .string ⟨#[]⟩, .slice none 0 0, .slice none 0 0]), 5, 80) := by kernel_rfl
section
variable {ops : Array Oper} {o : Oper} {a : Act} {K : Act → World → Prop} {Q : Exit → Act → World → Prop} {E : Prop}
theorem app_step {W : World} (B : Nat) (ty e : TypeId) (z : Value) (sz bytes : Nat) (hw : Region.wanted o (yielded ops a.tmps) = true) (s x : Operand) (ho : o.op = .call { callee := .builtin .append, args := #[s, x], argTypes := #[ty, ty] })
  (ht : Tryd.prog.underlying ty = some (.slice e)) (hinfo : (Tryd.prog.info? e).map (fun i => (i.zero, i.size, i.bytes)) = some (some z, sz, bytes)) (hzs : z.cells.size = sz) (hsz : 0 < sz) (hb0 : 0 < bytes)
  (u : Value) (n : Nat) (cs : List Value) (hs : a.eval s = u) (hown : W.ownsRow B e sz u n cs) (g : Nat) (es : List Value) (hx : a.eval x = .slice (some ⟨g, 0, none⟩) 1 1) (hbx : W.heap[g]? = some (.cells es.toArray e (0, 0))) (hes : es.length = sz) (h1 : ∀ y ∈ es, y.oneCell' = true) (hn : (n + 1) * bytes ≤ 140737488355328) (hB : B ≤ W.heap.size)
  (h : ∀ A c w', w'.ownsRow B e sz (.slice A (n + 1) c) (n + 1) (cs ++ es) → W.grownBy w' u.ownBlock → K (a.put o.dst (.slice A (n + 1) c)) w') : if Region.wanted o (yielded ops a.tmps) = true then Oper.wp Tryd.prog o a W K Q else E := by
 obtain ⟨i, hi, hz⟩ := Option.map_eq_some_iff.1 hinfo
 simp only [Prod.mk.injEq] at hz
 obtain ⟨hz, hsize, hby⟩ := hz
 have hle : n + 1 ≤ 140737488355328 := Nat.le_trans (Nat.le_mul_of_pos_right _ hb0) hn
 rw [if_pos hw]
 refine wp_append_own W s x ty ho B e i z sz bytes ht hi hz hsize hby hzs hsz u n cs hs hown ⟨g, 0, none⟩ 1 1 es hx (by rw [hes, Nat.one_mul]) ?_ h1 (by simp only [maxLen]; omega) hn hB ?_
 ·intro j y hj
  have := (pcell hbx).1 j y (by simpa using hj)
  by_cases q : j = 0
  ·subst q; simpa [Addr.add] using this
  ·simpa [Addr.add, q] using this
 ·intro u' w' h2 h3 _
  obtain ⟨A, c, rfl⟩ := own_slice h2
  exact h A c w' h2 h3
end
structure AI (B rb : Nat) (t : ByteArray) (W w : World) (s : JS) (v0 v : Value) (b1 : Nat) (cs : Array Value) (e sz : Nat) (u : Value) (n : Nat) : Prop where
 rd : Rd B rb t w s v
 mv : Mv rb (W.alloc (.cells #[.int .i64 0, .int .i64 0, .string ⟨#[]⟩, .slice none 0 0, .slice none 0 0] 56)) w v0 v
 b : w.heap[b1]? = some (.cells cs 56 (0, 0))
 hb : W.heap.size < b1
 own : ∃ xs, w.ownsRow (b1 + 1) e sz u n xs
 r : rb < W.heap.size
 o : ∀ k, v0.ownBlock = some k → k < W.heap.size
 he : e ≠ 5 ∧ e ≠ 63
 p : 1 ≤ s.op
section
variable {B rb : Nat} {t : ByteArray} {W w w2 : World} {s s2 : JS} {v0 v v2 : Value} {b1 : Nat} {cs : Array Value} {e sz : Nat} {u : Value} {n : Nat}
theorem AI.box (h : AI B rb t W w s v0 v b1 cs e sz u n) : w.heap[W.heap.size]? = some (.cells #[.int .i64 0, .int .i64 0, .string ⟨#[]⟩, .slice none 0 0, .slice none 0 0] 56 (0, 0)) := Mv.box h.mv h.r h.o
theorem own_neq2 {W : World} {B e T n n' : Nat} {sz sz' B' : Nat} {v u : Value} {xs ys : List Value} (h : W.ownsRow B e sz v n xs) (h' : W.ownsRow B' T sz' u n' ys) (hT : T ≠ e) {k : Nat} (hk : u.ownBlock = some k) : v.ownBlock ≠ some k := by
 rcases h'.2 with ⟨rfl, _⟩ | ⟨g, cap, cur, rfl, _, hg, _⟩
 ·cases hk
 ·obtain rfl : g = k := Option.some.inj hk
  exact own_neq h hg hT
theorem own_rb {W : World} {B e n : Nat} {sz g T : Nat} {u : Value} {xs : List Value} {c : Array Value} (h : W.ownsRow B e sz u n xs) (hb : W.heap[g]? = some (.cells c T (0, 0))) (hT : T ≠ e) : ∀ k, u.ownBlock = some k → k ≠ g := fun k hk e => own_neq h hb hT (e ▸ hk)
theorem AI.move (h : AI B rb t W w s v0 v b1 cs e sz u n) (hr : Rd B rb t w2 s2 v2) (hm : Mv rb w w2 v v2) (hp : s2.op = s.op) : AI B rb t W w2 s2 v0 v2 b1 cs e sz u n := by
 obtain ⟨xs, ho⟩ := h.own
 obtain ⟨P, _, hrb⟩ := h.rd.blk
 refine ⟨hr, h.mv.trans hm, (hm.ch.block b1 (Array.getElem?_eq_some_iff.1 h.b).1 ?_).trans h.b, h.hb, ⟨xs, own_kept ho (fun k hk => hm.ch.block k (own_lt ho hk).2 ?_)⟩, h.r, h.o, h.he, by rw [hp]; exact h.p⟩
 ·exact fun q => q.elim (fun q => by have := h.r; have := h.hb; omega) (fun q => own_neq h.rd.own h.b (by decide) q)
 ·exact fun q => q.elim (fun q => own_rb ho hrb (fun x => h.he.2 x.symm) k hk q) (fun q => own_neq2 h.rd.own ho h.he.1 hk q)
theorem AI.fr (h : AI B rb t W w s v0 v b1 cs e sz u n) [k : Fr w w2] : AI B rb t W w2 s v0 v b1 cs e sz u n := by
 obtain ⟨xs, ho⟩ := h.own
 exact ⟨h.rd.fr, h.mv.fr, ((Fr.out k).block b1 (Array.getElem?_eq_some_iff.1 h.b).1).trans h.b, h.hb, ⟨xs, own_kept ho (fun j hj => (Fr.out k).block j (own_lt ho hj).2)⟩, h.r, h.o, h.he, h.p⟩
theorem AI.grown {u' : Value} {n' : Nat} {xs' : List Value} (h : AI B rb t W w s v0 v b1 cs e sz u n) (hg : w.grownBy w2 u.ownBlock) (ho' : w2.ownsRow (b1 + 1) e sz u' n' xs') : AI B rb t W w2 s v0 v b1 cs e sz u' n' := by
 obtain ⟨xs, ho⟩ := h.own
 obtain ⟨P, _, hrb⟩ := h.rd.blk
 have hc : Ch (fun k => u.ownBlock = some k) w w2 := (Ch.refl _ w).then_grown hg (fun i _ e => e)
 have hl : ∀ k, u.ownBlock = some k → W.heap.size + 2 ≤ k := fun k hk => by have := (own_lt ho hk).1; have := h.hb; omega
 have hm : Mv rb (W.alloc (.cells #[.int .i64 0, .int .i64 0, .string ⟨#[]⟩, .slice none 0 0, .slice none 0 0] 56)) w2 v0 v := ⟨⟨hc.os.trans h.mv.ch.os, hc.tape.trans h.mv.ch.tape, hc.output.trans h.mv.ch.output, Nat.le_trans h.mv.ch.size hc.size, fun i hi hn => (hc.block i (Nat.lt_of_lt_of_le hi h.mv.ch.size) (fun q => by have := hl i q; simp at hi; omega)).trans (h.mv.ch.block i hi hn)⟩, h.mv.own⟩
 exact ⟨h.rd.ch hc (fun q => by have := hl _ q; have := h.r; omega) (fun k hk q => own_neq2 h.rd.own ho h.he.1 q hk), hm, (hc.block b1 (Array.getElem?_eq_some_iff.1 h.b).1 (fun q => by have := (own_lt ho q).1; omega)).trans h.b, h.hb, ⟨xs', ho'⟩, h.r, h.o, h.he, h.p⟩
theorem AI.put (h : AI B rb t W w s v0 v b1 cs e sz u n) (j : Nat) (x : Value) : AI B rb t W (w.setCell ⟨b1, j, none⟩ x) s v0 v b1 (cs.setIfInBounds j x) e sz u n := by
 obtain ⟨xs, ho⟩ := h.own
 have hc : Ch (· = b1) w (w.setCell ⟨b1, j, none⟩ x) := (Ch.refl (fun k => k = b1) w).set (fun _ => rfl) x
 have hl := h.hb
 exact ⟨h.rd.far hc h.b (by decide) (by have := h.r; omega), h.mv.far hc (by simp; omega), pset h.b j x, h.hb, ⟨xs, own_kept ho (fun k hk => hc.block k (own_lt ho hk).2 (fun q => by have := (own_lt ho hk).1; have : k = b1 := q; omega))⟩, h.r, h.o, h.he, h.p⟩
theorem AI.shut (h : AI B rb t W w s v0 v b1 cs e sz u n) : Rd B rb t (w.setCell ⟨rb, 2, none⟩ (.int .i64 (s.op - 1))) (Js.shut s) v ∧ Mv rb (W.alloc (.cells #[.int .i64 0, .int .i64 0, .string ⟨#[]⟩, .slice none 0 0, .slice none 0 0] 56)) (w.setCell ⟨rb, 2, none⟩ (.int .i64 (s.op - 1))) v0 v ∧ (w.setCell ⟨rb, 2, none⟩ (.int .i64 (s.op - 1))).heap[W.heap.size]? = some (.cells #[.int .i64 0, .int .i64 0, .string ⟨#[]⟩, .slice none 0 0, .slice none 0 0] 56 (0, 0)) ∧ (w.setCell ⟨rb, 2, none⟩ (.int .i64 (s.op - 1))).heap[b1]? = some (.cells cs 56 (0, 0)) := by
 have hp := h.p
 have hr := h.r
 have hl := h.hb
 exact ⟨h.rd.set2 _ (by omega) (by have := h.rd.p1; omega), h.mv.set 2 _, (Below.heap_setCell w ⟨rb, 2, none⟩ _ _ (show W.heap.size ≠ rb by omega)).trans h.box, (Below.heap_setCell w ⟨rb, 2, none⟩ _ _ (show b1 ≠ rb by omega)).trans h.b⟩
end
end Go.Proofs.YtbpiahpkbapijaaDoor.J
end
section
namespace Go.Proofs.YtbpiahpkbapijaaDoor.J
open Go.RowKit Go.Proofs.YtbpiahpkbapijaaDoorW.PrintWords Go.Proofs.YtbpiahpkbapijaaDoorW.PrintLast Go.Proofs.YtbpiahpkbapijaaDoorW.PrintMore
set_option linter.unusedVariables false
set_option linter.unusedSimpArgs false
section
variable {B rb : Nat} {t : ByteArray} {W w w2 : World} {s : JS} {v0 v : Value} {b1 : Nat} {e sz : Nat} {u : Value} {n : Nat} {x0 x1 x2 x3 x4 : Value}
theorem AI.c3 (h : AI B rb t W w s v0 v b1 #[x0, x1, x2, x3, x4] e sz u n) : w.cell? ⟨b1, 3, none⟩ = some x3 := (vcells h.b).2.2.2.1
theorem AI.c4 (h : AI B rb t W w s v0 v b1 #[x0, x1, x2, x3, x4] e sz u n) : w.cell? ⟨b1, 4, none⟩ = some x4 := (vcells h.b).2.2.2.2.1
theorem AI.c3fr (h : AI B rb t W w s v0 v b1 #[x0, x1, x2, x3, x4] e sz u n) [Fr w w2] : w2.cell? ⟨b1, 3, none⟩ = some x3 := AI.c3 (w := w2) h.fr
theorem AI.c4fr (h : AI B rb t W w s v0 v b1 #[x0, x1, x2, x3, x4] e sz u n) [Fr w w2] : w2.cell? ⟨b1, 4, none⟩ = some x4 := AI.c4 (w := w2) h.fr
theorem AI.new {w1 : World} {v1 : Value} {cs : Array Value} (hr : Rd B rb t w1 s v1) (hm : Mv rb (W.alloc (.cells #[.int .i64 0, .int .i64 0, .string ⟨#[]⟩, .slice none 0 0, .slice none 0 0] 56)) w1 v0 v1) (hlt : rb < W.heap.size) (ho : ∀ k, v0.ownBlock = some k → k < W.heap.size) (he : e ≠ 5 ∧ e ≠ 63) (hp : 1 ≤ s.op) : AI B rb t W (w1.alloc (.cells cs 56)) s v0 v1 w1.heap.size cs e sz (.slice none 0 0) 0 :=
 ⟨hr.fr, hm.fr, blk_new w1 _, by have := hm.ch.size; simp at this; omega, ⟨[], by simp, .inl ⟨rfl, rfl⟩⟩, hlt, ho, he, hp⟩
theorem AI.thrown {b2 : Nat} {cs : Array Value} (h : AI B rb t W w s v0 v b2 cs e sz u n) (hc : Ch (fun k => k = rb ∨ v.ownBlock = some k) w w2) : Ch (fun k => k = rb ∨ v0.ownBlock = some k) W w2 :=
 ch_alloc (h.mv.trans (v2 := v) ⟨hc, fun _ q _ => q⟩).ch
end
set_option maxHeartbeats 4000000 in
set_option maxRecDepth 100000 in
theorem array_calls (B rb : Nat) (t : ByteArray) (k : Nat) (hk : k ≤ 1099511627776) (hV : ∀ j, j < k → VOK B rb t j) : AOK B rb t (k + 1) := by
 intro s r hr W v h hl
 have HP := yM (show Rd B rb t (W.alloc (.cells #[.int .i64 0, .int .i64 0, .string ⟨#[]⟩, .slice none 0 0, .slice none 0 0] 56)) s v from h.fr)
 have HO := yM (show ∀ k, v.ownBlock = some k → k < W.heap.size from fun k hk => (h.olt k hk).2)
 have hlW := h.lt
 have hp0 := h.p0
 have hne : W.heap.size ≠ rb := by omega
 have hne2 : rb ≠ W.heap.size := by omega
 have HB := yM (bracket_calls B rb t s v _ HP.out (by omega))
 clear h
 unfold Js.array at hr
 rcases hb : Js.bracket t s with x | s1
 ·rw [hb] at hr HB
  obtain rfl := Option.some.inj hr
  clear hr
  go_enter Tryd.func55, Tryd.ntmps55
  go_wp2_with (go_at_call 70; refine HB.out.mono ?_; rintro e w1 ⟨rfl, hc⟩; exact ⟨rfl, rfl, ch_alloc hc⟩)
 ·rw [hb] at hr HB
  dsimp only at hr
  have HP1 := yM (show 1 ≤ s1.op by have := Js.bracket_keep hb; omega)
  rcases hp : Js.peek t s1 with x | ⟨c, s2⟩
  ·rw [hp] at hr
   obtain rfl := Option.some.inj hr
   have HPk := yM hp
   clear hr hp hb
   go_enter Tryd.func55, Tryd.ntmps55
   go_wp2_with first
    | (go_at_call 70; refine HB.out.mono ?_; rintro e w1 ⟨rfl, v1, hr1, hm1⟩; have HA := yM (AI.new (cs := #[.int .i64 5, .int .i64 s.at_, .string ⟨#[]⟩, .slice none 0 0, .slice none 0 0]) (e := 56) (sz := 5) hr1 hm1 hlW HO.out (by decide) HP1.out); clear hr1 hm1)
    | (go_at_call 42; refine (peek_calls B rb t s1 v1 _ HA.out.rd).mono ?_; rintro e w2 hU; rw [HPk.out] at hU; obtain ⟨rfl, hc⟩ := hU; exact ⟨rfl, rfl, AI.thrown HA.out hc⟩)
  ·rw [hp] at hr
   dsimp only at hr
   have HPk := yM hp
   have hpk := Js.peek_keep hp
   have hp21 := (peek_ok hp)
   clear hp hb
   go_enter Tryd.func55, Tryd.ntmps55
   go_upto_if 10 with first
    | (go_at_call 70; refine HB.out.mono ?_; rintro e w1 ⟨rfl, v1, hr1, hm1⟩; have HA := yM (AI.new (cs := #[.int .i64 5, .int .i64 s.at_, .string ⟨#[]⟩, .slice none 0 0, .slice none 0 0]) (e := 56) (sz := 5) hr1 hm1 hlW HO.out (by decide) HP1.out); clear hr1 hm1)
    | (go_at_call 42; refine (peek_calls B rb t s1 v1 _ HA.out.rd).mono ?_; rintro e w2 hU; rw [HPk.out] at hU; obtain ⟨rfl, v2, hr2, hm2⟩ := hU; have HA2 := yM (AI.move HA.out hr2 hm2 hpk); have ha2 := HA.out.rd.a1; clear hr2 hm2 HA)
   have HL2 := yM (hp21 ha2).1
   clear ha2 hp21
   by_cases g : c = 93
   ·have k0 : (c == 93) = true := beq_iff_eq.mpr g
    rw [if_pos g] at hr
    obtain rfl := Option.some.inj hr
    clear g hr
    go_upto_region 8 with (go_at_call 71; refine (take_calls B rb t 1 s2 v2 _ HA2.out.rd (by decide) (by have := HL2.out; omega)).mono ?_; rintro e w4 ⟨rfl, v4, hr4, hm4⟩; have HA4 := yM (AI.move HA2.out hr4 hm4 rfl); clear hr4 hm4)
    obtain ⟨_, _, tc2, tfr, tlt⟩ := HA4.out.rd.at_
    have tfr2 := tfr 2
    obtain ⟨z0, z1, z2, z3, z4, zf, zl⟩ := vcells HA4.out.b
    obtain ⟨y0, y1, y2, y3, y4, yf, yl⟩ := vcells HA4.out.box
    have nb1 := HA4.out.hb
    have nn1 : w1.heap.size ≠ rb := by omega
    have nn2 : rb ≠ w1.heap.size := by omega
    have nn3 : w1.heap.size ≠ W.heap.size := by omega
    have nn4 : W.heap.size ≠ w1.heap.size := by omega
    have hp1 := HA4.out.p
    have hp2 := HA4.out.rd.p1
    have e9 : wrap64 ((Js.tk t 1 s2).op - 1) = (Js.tk t 1 s2).op - 1 := w64 _ (by omega)
    have HSH := yM HA4.out.shut
    clear tfr
    go_wp2
    refine bodyPost_ret (v := .agg #[.int .i64 5, .int .i64 s.at_, .string ⟨#[]⟩, .slice none 0 0, .slice none 0 0]) (by simp [results, Tryd.results55, go_sem, *]) rfl ?_
    exact ⟨⟨_, _, _, _, _, _, _, _, _, rfl⟩, box_done HSH.out.1 HSH.out.2.1 HSH.out.2.2.1 (by decide) hlW _ _ _ _ _⟩
   ·have k0 : (c == 93) = false := yB g
    rw [if_neg g] at hr
    have HR := yM hr
    clear g hr
    go_wp2
    clear k0
    generalize (c == 93) = bb
    go_loopg [4] k (fun kq v4 w' => ∃ (mo : Bool) (s' : JS) (v' : Value) (A : Option Addr) (n c : Nat), v4 = .bool mo ∧ Aside0 ((if mo = true then Js.elems t kq s' else some (.ok (Js.shut s'))) = some r) ∧ Aside0 (n + kq ≤ k) ∧ Aside0 (AI B rb t W w' s' v v' w1.heap.size #[.int .i64 5, .int .i64 s.at_, .string ⟨#[]⟩, .slice A n c, .slice none 0 0] 56 5 (.slice A n c) n))
    case atStart => exact ⟨true, s2, v2, none, 0, 0, rfl, HR, ⟨by omega⟩, HA2⟩
    case round =>
     clear HR HA2 HL2
     obtain ⟨mo, s', v', A, n, c', rfl, HR, HN, HA⟩ := hrel
     have hr := HR.out
     clear HR
     cases mo with
     | false =>
      rw [if_neg Bool.false_ne_true] at hr
      obtain rfl := Option.some.inj hr
      clear hr
      go_upto_region 8 with fail
      obtain ⟨_, _, tc2, tfr, tlt⟩ := HA.out.rd.at_
      have tfr2 := tfr 2
      obtain ⟨z0, z1, z2, z3, z4, zf, zl⟩ := vcells HA.out.b
      obtain ⟨y0, y1, y2, y3, y4, yf, yl⟩ := vcells HA.out.box
      have nb1 := HA.out.hb
      have nn1 : w1.heap.size ≠ rb := by omega
      have nn2 : rb ≠ w1.heap.size := by omega
      have nn3 : w1.heap.size ≠ W.heap.size := by omega
      have nn4 : W.heap.size ≠ w1.heap.size := by omega
      have hp1 := HA.out.p
      have hp2 := HA.out.rd.p1
      have e9 : wrap64 (s'.op - 1) = s'.op - 1 := w64 _ (by omega)
      have HSH := yM HA.out.shut
      clear tfr
      go_wp2
      refine bodyPost_ret (v := .agg #[.int .i64 5, .int .i64 s.at_, .string ⟨#[]⟩, .slice A n c', .slice none 0 0]) (by simp [results, Tryd.results55, go_sem, *]) rfl ?_
      exact ⟨⟨_, _, _, _, _, _, _, _, _, rfl⟩, box_done HSH.out.1 HSH.out.2.1 HSH.out.2.2.1 (by decide) hlW _ _ _ _ _⟩
     | true =>
      rw [if_pos rfl] at hr
      cases gk with
      | zero => simp [Js.elems] at hr
      | succ k1 =>
       unfold Js.elems at hr
       obtain ⟨c, rfl⟩ : ∃ c, c = c' := ⟨_, rfl⟩
       rcases hv : Js.value t k1 s' with _ | x | s3
       ·rw [hv] at hr; cases hr
       ·rw [hv] at hr
        obtain rfl := Option.some.inj hr
        have HVk := yM (hV k1 (by have := HN.out; omega) s' _ hv)
        clear hr hv
        go_wp2
        refine start_ (n := 8) (S := fun w' => w'.cell? ⟨w1.heap.size, 3, none⟩ = some (.slice A n c)) (ds := [7]) #[false, false, false, false, false, false, false, false] (by kernel_rfl) rfl rfl ((AI.c3fr HA.out)) (fun hHeld => ?_)
        refine pure_ (i := 0) (N := some 17) (v := ?_) (a' := ?_) #[true, false, false, false, false, false, false, false] rfl rfl (by kernel_rfl) (fun _ _ _ h => h) (Or.inl ⟨by rfl, ?_⟩) ?_ ?_
        rotate_left
        ·intro w'
         go_simp
         with_reducible rfl
        rotate_left
        ·simp only [Act.put, yX, yY, yZ, i64_w, i32_w]
         rfl
        refine pure_ (i := 2) (N := some 19) (v := ?_) (a' := ?_) #[true, false, true, false, false, false, false, false] rfl rfl (by kernel_rfl) (fun _ _ _ h => h) (Or.inl ⟨by rfl, ?_⟩) ?_ ?_
        rotate_left
        ·intro w'
         go_simp
         with_reducible rfl
        rotate_left
        ·simp only [Act.put, yX, yY, yZ, i64_w, i32_w]
         rfl
        refine take_ (i := 1) (N := some 18) (v := ?_) (a' := ?_) #[true, true, true, false, false, false, false, false] rfl rfl (by kernel_rfl) (fun _ _ _ h => h) (Or.inl ⟨by rfl, ?_⟩) hHeld ?_ ?_
        rotate_left
        ·intro w' s0
         go_simp
         with_reducible rfl
        rotate_left
        ·simp only [Act.put, yX, yY, yZ, i64_w, i32_w]
         rfl
        refine one_ (i := 3) (N := some 20) #[true, true, true, true, false, false, false, false] rfl rfl (by kernel_rfl) (by decide) (fun K hK => ?_)
        refine goesP_ Tryd.func30 (by kernel_rfl) rfl #[.pointer (some ⟨rb, 0, none⟩)] (by rfl) rfl rfl (by simp only [List.map_toArray, List.map_cons, List.map_nil]; rfl) ?_
        refine (HVk.out _ _ HA.out.fr.rd).mono ?_
        rintro e w3 ⟨rfl, hc⟩
        exact Or.inr ⟨_, rfl, rfl, rfl, AI.thrown (show AI B rb t W wr.drew s' v v' w1.heap.size #[.int .i64 5, .int .i64 s.at_, .string ⟨#[]⟩, .slice A n c, .slice none 0 0] 56 5 (.slice A n c) n from HA.out.fr) hc⟩
       ·rw [hv] at hr
        dsimp only at hr
        have hkp := (Js.keep t k1).1 _ _ hv
        have HVk := yM (hV k1 (by have := HN.out; omega) s' _ hv)
        have HR := yM hr
        clear hr hv
        go_wp2
        refine start_ (n := 8) (S := fun w' => w'.cell? ⟨w1.heap.size, 3, none⟩ = some (.slice A n c)) (ds := [7]) #[false, false, false, false, false, false, false, false] (by kernel_rfl) rfl rfl ((AI.c3fr HA.out)) (fun hHeld => ?_)
        refine pure_ (i := 0) (N := some 17) (v := ?_) (a' := ?_) #[true, false, false, false, false, false, false, false] rfl rfl (by kernel_rfl) (fun _ _ _ h => h) (Or.inl ⟨by rfl, ?_⟩) ?_ ?_
        rotate_left
        ·intro w'
         go_simp
         with_reducible rfl
        rotate_left
        ·simp only [Act.put, yX, yY, yZ, i64_w, i32_w]
         rfl
        refine pure_ (i := 2) (N := some 19) (v := ?_) (a' := ?_) #[true, false, true, false, false, false, false, false] rfl rfl (by kernel_rfl) (fun _ _ _ h => h) (Or.inl ⟨by rfl, ?_⟩) ?_ ?_
        rotate_left
        ·intro w'
         go_simp
         with_reducible rfl
        rotate_left
        ·simp only [Act.put, yX, yY, yZ, i64_w, i32_w]
         rfl
        refine take_ (i := 1) (N := some 18) (v := ?_) (a' := ?_) #[true, true, true, false, false, false, false, false] rfl rfl (by kernel_rfl) (fun _ _ _ h => h) (Or.inl ⟨by rfl, ?_⟩) hHeld ?_ ?_
        rotate_left
        ·intro w' s0
         go_simp
         with_reducible rfl
        rotate_left
        ·simp only [Act.put, yX, yY, yZ, i64_w, i32_w]
         rfl
        refine one_ (i := 3) (N := some 20) #[true, true, true, true, false, false, false, false] rfl rfl (by kernel_rfl) (by decide) (fun K hK => ?_)
        refine goesP_ Tryd.func30 (by kernel_rfl) rfl #[.pointer (some ⟨rb, 0, none⟩)] (by rfl) rfl rfl (by simp only [List.map_toArray, List.map_cons, List.map_nil]; rfl) ?_
        refine (HVk.out _ _ HA.out.fr.rd).mono ?_
        rintro e w3 ⟨⟨q, a', x, A', n', c', A2, n2, c2, rfl⟩, v3, hr3, hm3⟩
        have HA3 := yM (AI.move HA.out.fr hr3 hm3 hkp)
        clear hr3 hm3
        refine Or.inl ⟨_, rfl, ?_⟩
        refine hK.out _ _ ((AI.c3 HA3.out)) (fun hHeld => ?_)
        clear hK K
        refine norm_ (a' := ?_) ?_ ?_
        rotate_left
        ·show Act.put _ (some 20) _ = _
         simp only [Act.put, yX, yY, yZ, i64_w, i32_w]
         rfl
        refine one_ (i := 4) (N := some 21) #[true, true, true, true, true, false, false, false] rfl rfl (by kernel_rfl) (by decide) (fun K hK => ?_)
        refine value_ (w1 := ?_) (v := ?_) (by rfl) rfl ?_ ?_
        rotate_left 2
        ·go_simp
         constructor
         ·rfl
         ·rfl
        refine hK.out _ _ ((AI.c3fr HA3.out)) (fun hHeld => ?_)
        clear hK K
        refine norm_ (a' := ?_) ?_ ?_
        rotate_left
        ·show Act.put _ (some 21) _ = _
         simp only [Act.put, yX, yY, yZ, i64_w, i32_w]
         rfl
        refine one_ (i := 5) (N := some 22) #[true, true, true, true, true, true, false, false] rfl rfl (by kernel_rfl) (by decide) (fun K hK => ?_)
        obtain ⟨xs, hxs⟩ := (show AI B rb t W (w3.alloc (.cells #[.int .i64 q, .int .i64 a', .string x, .slice A' n' c', .slice A2 n2 c2] 56)) s3 v v3 w1.heap.size #[.int .i64 5, .int .i64 s.at_, .string ⟨#[]⟩, .slice A n c, .slice none 0 0] 56 5 (.slice A n c) n from HA3.out.fr).own
        refine app_step (w1.heap.size + 1) 53 56 (.agg #[.int .i64 0, .int .i64 0, .string ⟨#[]⟩, .slice none 0 0, .slice none 0 0]) 5 80 (by rfl) (.tmp 18) (.tmp 21) rfl Tryd.underlying53 info56 rfl (by decide) (by decide) (.slice A n c) n xs (by simp [Act.eval, Act.put]) hxs w3.heap.size [.int .i64 q, .int .i64 a', .string x, .slice A' n' c', .slice A2 n2 c2] (by simp [Act.eval, Act.put]) (blk_new w3 _) rfl (by intro y hy; simp at hy; rcases hy with rfl | rfl | rfl | rfl | rfl <;> rfl) (by have := HN.out; omega) (by have := (Array.getElem?_eq_some_iff.1 HA3.out.b).1; simp; omega) ?_
        intro A9 c9 w9 ho9 hg9
        have HA9 := yM (AI.grown (show AI B rb t W (w3.alloc (.cells #[.int .i64 q, .int .i64 a', .string x, .slice A' n' c', .slice A2 n2 c2] 56)) s3 v v3 w1.heap.size #[.int .i64 5, .int .i64 s.at_, .string ⟨#[]⟩, .slice A n c, .slice none 0 0] 56 5 (.slice A n c) n from HA3.out.fr) hg9 ho9)
        clear hxs ho9 hg9
        obtain ⟨_, _, _, z9, _, zf9, zl9⟩ := vcells HA9.out.b
        have zf93 := zf9 3
        clear zf9
        refine hK.out _ _ ((AI.c3 HA9.out)) (fun hHeld => ?_)
        clear hK K
        refine norm_ (a' := ?_) ?_ ?_
        rotate_left
        ·show Act.put _ (some 22) _ = _
         simp only [Act.put, yX, yY, yZ, i64_w, i32_w]
         rfl
        refine pure_ (i := 6) (N := some 23) (v := ?_) (a' := ?_) #[true, true, true, true, true, true, true, false] rfl rfl (by kernel_rfl) (fun _ _ _ h => h) (Or.inl ⟨by rfl, ?_⟩) ?_ ?_
        rotate_left
        ·intro w'
         go_simp
         with_reducible rfl
        rotate_left
        ·simp only [Act.put, yX, yY, yZ, i64_w, i32_w]
         rfl
        refine last_ (i := 7) (N := none) #[true, true, true, true, true, true, true, true] rfl rfl (by kernel_rfl) (by decide) (fun K hK => ?_)
        refine skip_ (w1 := ?_) (by rfl) rfl ?_ ?_
        rotate_left
        ·go_simp
         rfl
        refine hK.out _ _ ?_
        clear hK K
        refine done_ (by kernel_rfl) ?_
        have HA10 := yM (show AI B rb t W (w9.setCell ⟨w1.heap.size, 3, none⟩ (.slice A9 (n + 1) c9)) s3 v v3 w1.heap.size #[.int .i64 5, .int .i64 s.at_, .string ⟨#[]⟩, .slice A9 (n + 1) c9, .slice none 0 0] 56 5 (.slice A9 (n + 1) c9) (n + 1) from HA9.out.put 3 _)
        clear HA HA3 HA9 z9 zf93 zl9 hHeld HVk
        have hr := HR.out
        clear HR
        rcases hs : Js.sign t ⟨#[44, 93]⟩ s3 with x | ⟨c2, s4⟩
        ·rw [hs] at hr
         obtain rfl := Option.some.inj hr
         have HS := yM hs
         clear hr hs
         go_wp2_with (go_at_call 72; refine (sign_calls B rb t _ s3 v3 _ HA10.out.rd).mono ?_; rintro e w5 hU; rw [HS.out] at hU; obtain ⟨rfl, hc⟩ := hU; exact ⟨rfl, rfl, AI.thrown HA10.out hc⟩)
        ·rw [hs] at hr
         dsimp only at hr
         have hsk := Js.sign_keep hs
         have HS := yM hs
         have HR := yM hr
         clear hr hs
         go_wp2_with (go_at_call 72; refine (sign_calls B rb t _ s3 v3 _ HA10.out.rd).mono ?_; rintro e w5 hU; rw [HS.out] at hU; obtain ⟨rfl, v5, hr5, hm5⟩ := hU; have HA5 := yM (AI.move HA10.out hr5 hm5 hsk); clear hr5 hm5)
         go_roundg k1
         case measure => omega
         case rel =>
          refine ⟨c2 == 44, s4, v5, A9, n + 1, c9, rfl, ⟨?_⟩, ⟨by have := HN.out; omega⟩, HA5⟩
          have hr := HR.out
          by_cases q : c2 = 44
          ·rw [if_pos (beq_iff_eq.mpr q)]; rw [if_pos q] at hr; exact hr
          ·rw [if_neg (fun e => q (eq_of_beq e))]; rw [if_neg q] at hr; exact hr
end Go.Proofs.YtbpiahpkbapijaaDoor.J
end
section
namespace Go.Proofs.YtbpiahpkbapijaaDoor.J
open Go.RowKit Go.Proofs.YtbpiahpkbapijaaDoorW.PrintWords Go.Proofs.YtbpiahpkbapijaaDoorW.PrintLast Go.Proofs.YtbpiahpkbapijaaDoorW.PrintMore
set_option linter.unusedVariables false
set_option linter.unusedSimpArgs false
theorem info111 : (Tryd.prog.info? 111).map (fun i => (i.zero, i.size, i.bytes)) = some (some (.agg #[.string ⟨#[]⟩, .int .i64 0, .int .i64 0, .int .i64 0, .string ⟨#[]⟩, .slice none 0 0, .slice none 0 0]), 7, 104) := by kernel_rfl
theorem box_keep {B rb : Nat} {t : ByteArray} {w w2 : World} {s : JS} {v v2 : Value} {b2 : Nat} {cs : Array Value} (h : Rd B rb t w s v) (hm : Mv rb w w2 v v2) (hb : w.heap[b2]? = some (.cells cs 56 (0, 0))) : w2.heap[b2]? = some (.cells cs 56 (0, 0)) := by
 obtain ⟨P, _, hrb⟩ := h.blk
 refine (hm.ch.block b2 (Array.getElem?_eq_some_iff.1 hb).1 (fun q => q.elim (fun q => ?_) (fun q => own_neq h.own hb (by decide) q))).trans hb
 rw [q, hrb] at hb
 injection hb with hb
 injection hb with _ hb _
 cases hb
theorem xcells {w w2 : World} {b2 : Nat} {x0 x1 x2 x3 x4 : Value} (hb : w.heap[b2]? = some (.cells #[x0, x1, x2, x3, x4] 56 (0, 0))) [k : Fr w w2] : w2.heap[b2]? = some (.cells #[x0, x1, x2, x3, x4] 56 (0, 0)) := ((Fr.out k).block b2 (Array.getElem?_eq_some_iff.1 hb).1).trans hb
theorem x1fr {w w2 : World} {b2 : Nat} {x0 x1 x2 x3 x4 : Value} (hb : w.heap[b2]? = some (.cells #[x0, x1, x2, x3, x4] 56 (0, 0))) [k : Fr w w2] : w2.cell? ⟨b2, 1, none⟩ = some x1 := (vcells (xcells (w2 := w2) hb)).2.1
theorem x2fr {w w2 : World} {b2 : Nat} {x0 x1 x2 x3 x4 : Value} (hb : w.heap[b2]? = some (.cells #[x0, x1, x2, x3, x4] 56 (0, 0))) [k : Fr w w2] : w2.cell? ⟨b2, 2, none⟩ = some x2 := (vcells (xcells (w2 := w2) hb)).2.2.1
set_option maxHeartbeats 4000000 in
set_option maxRecDepth 100000 in
theorem object_calls (B rb : Nat) (t : ByteArray) (k : Nat) (hk : k ≤ 1099511627776) (hV : ∀ j, j < k → VOK B rb t j) : OOK B rb t (k + 1) := by
 intro s r hr W v h hl
 have HP := yM (show Rd B rb t (W.alloc (.cells #[.int .i64 0, .int .i64 0, .string ⟨#[]⟩, .slice none 0 0, .slice none 0 0] 56)) s v from h.fr)
 have HO := yM (show ∀ k, v.ownBlock = some k → k < W.heap.size from fun k hk => (h.olt k hk).2)
 have hlW := h.lt
 have hp0 := h.p0
 have hne : W.heap.size ≠ rb := by omega
 have hne2 : rb ≠ W.heap.size := by omega
 have HB := yM (bracket_calls B rb t s v _ HP.out (by omega))
 clear h
 unfold Js.object at hr
 rcases hb : Js.bracket t s with x | s1
 ·rw [hb] at hr HB
  obtain rfl := Option.some.inj hr
  clear hr
  go_enter Tryd.func54, Tryd.ntmps54
  go_wp2_with (go_at_call 70; refine HB.out.mono ?_; rintro e w1 ⟨rfl, hc⟩; exact ⟨rfl, rfl, ch_alloc hc⟩)
 ·rw [hb] at hr HB
  dsimp only at hr
  have HP1 := yM (show 1 ≤ s1.op by have := Js.bracket_keep hb; omega)
  rcases hp : Js.peek t s1 with x | ⟨c, s2⟩
  ·rw [hp] at hr
   obtain rfl := Option.some.inj hr
   have HPk := yM hp
   clear hr hp hb
   go_enter Tryd.func54, Tryd.ntmps54
   go_wp2_with first
    | (go_at_call 70; refine HB.out.mono ?_; rintro e w1 ⟨rfl, v1, hr1, hm1⟩; have HA := yM (AI.new (cs := #[.int .i64 6, .int .i64 s.at_, .string ⟨#[]⟩, .slice none 0 0, .slice none 0 0]) (e := 111) (sz := 7) hr1 hm1 hlW HO.out (by decide) HP1.out); clear hr1 hm1)
    | (go_at_call 42; refine (peek_calls B rb t s1 v1 _ HA.out.rd).mono ?_; rintro e w2 hU; rw [HPk.out] at hU; obtain ⟨rfl, hc⟩ := hU; exact ⟨rfl, rfl, AI.thrown HA.out hc⟩)
  ·rw [hp] at hr
   dsimp only at hr
   have HPk := yM hp
   have hpk := Js.peek_keep hp
   have hp21 := (peek_ok hp)
   clear hp hb
   go_enter Tryd.func54, Tryd.ntmps54
   go_upto_if 11 with first
    | (go_at_call 70; refine HB.out.mono ?_; rintro e w1 ⟨rfl, v1, hr1, hm1⟩; have HA := yM (AI.new (cs := #[.int .i64 6, .int .i64 s.at_, .string ⟨#[]⟩, .slice none 0 0, .slice none 0 0]) (e := 111) (sz := 7) hr1 hm1 hlW HO.out (by decide) HP1.out); clear hr1 hm1)
    | (go_at_call 42; refine (peek_calls B rb t s1 v1 _ HA.out.rd).mono ?_; rintro e w2 hU; rw [HPk.out] at hU; obtain ⟨rfl, v2, hr2, hm2⟩ := hU; have HA2 := yM (AI.move HA.out hr2 hm2 hpk); have ha2 := HA.out.rd.a1; clear hr2 hm2 HA)
   have HL2 := yM (hp21 ha2).1
   clear ha2 hp21
   by_cases g : c = 125
   ·have k0 : (c == 125) = true := beq_iff_eq.mpr g
    rw [if_pos g] at hr
    obtain rfl := Option.some.inj hr
    clear g hr
    go_upto_region 12 with (go_at_call 71; refine (take_calls B rb t 1 s2 v2 _ HA2.out.rd (by decide) (by have := HL2.out; omega)).mono ?_; rintro e w4 ⟨rfl, v4, hr4, hm4⟩; have HA4 := yM (AI.move HA2.out hr4 hm4 rfl); clear hr4 hm4)
    obtain ⟨_, _, tc2, tfr, tlt⟩ := HA4.out.rd.at_
    have tfr2 := tfr 2
    obtain ⟨z0, z1, z2, z3, z4, zf, zl⟩ := vcells HA4.out.b
    obtain ⟨y0, y1, y2, y3, y4, yf, yl⟩ := vcells HA4.out.box
    have nb1 := HA4.out.hb
    have nn1 : w1.heap.size ≠ rb := by omega
    have nn2 : rb ≠ w1.heap.size := by omega
    have nn3 : w1.heap.size ≠ W.heap.size := by omega
    have nn4 : W.heap.size ≠ w1.heap.size := by omega
    have hp1 := HA4.out.p
    have hp2 := HA4.out.rd.p1
    have e9 : wrap64 ((Js.tk t 1 s2).op - 1) = (Js.tk t 1 s2).op - 1 := w64 _ (by omega)
    have HSH := yM HA4.out.shut
    clear tfr
    go_wp2
    refine bodyPost_ret (v := .agg #[.int .i64 6, .int .i64 s.at_, .string ⟨#[]⟩, .slice none 0 0, .slice none 0 0]) (by simp [results, Tryd.results54, go_sem, *]) rfl ?_
    exact ⟨⟨_, _, _, _, _, _, _, _, _, rfl⟩, box_done HSH.out.1 HSH.out.2.1 HSH.out.2.2.1 (by decide) hlW _ _ _ _ _⟩
   ·have k0 : (c == 125) = false := yB g
    rw [if_neg g] at hr
    have HR := yM hr
    clear g hr
    go_wp2
    clear k0
    generalize (c == 125) = bb
    go_loopg [4] k (fun kq v4 w' => ∃ (mo : Bool) (s' : JS) (v' : Value) (A : Option Addr) (n c : Nat), v4 = .bool mo ∧ Aside0 ((if mo = true then Js.members t kq s' else some (.ok (Js.shut s'))) = some r) ∧ Aside0 (n + kq ≤ k) ∧ Aside0 (AI B rb t W w' s' v v' w1.heap.size #[.int .i64 6, .int .i64 s.at_, .string ⟨#[]⟩, .slice none 0 0, .slice A n c] 111 7 (.slice A n c) n))
    case atStart => exact ⟨true, s2, v2, none, 0, 0, rfl, HR, ⟨by omega⟩, HA2⟩
    case round =>
     clear HR HA2 HL2 HPk
     obtain ⟨mo, s', v', A, n, c', rfl, HR, HN, HA⟩ := hrel
     have hr := HR.out
     clear HR
     cases mo with
     | false =>
      rw [if_neg Bool.false_ne_true] at hr
      obtain rfl := Option.some.inj hr
      clear hr
      go_upto_region 12 with fail
      obtain ⟨_, _, tc2, tfr, tlt⟩ := HA.out.rd.at_
      have tfr2 := tfr 2
      obtain ⟨z0, z1, z2, z3, z4, zf, zl⟩ := vcells HA.out.b
      obtain ⟨y0, y1, y2, y3, y4, yf, yl⟩ := vcells HA.out.box
      have nb1 := HA.out.hb
      have nn1 : w1.heap.size ≠ rb := by omega
      have nn2 : rb ≠ w1.heap.size := by omega
      have nn3 : w1.heap.size ≠ W.heap.size := by omega
      have nn4 : W.heap.size ≠ w1.heap.size := by omega
      have hp1 := HA.out.p
      have hp2 := HA.out.rd.p1
      have e9 : wrap64 (s'.op - 1) = s'.op - 1 := w64 _ (by omega)
      have HSH := yM HA.out.shut
      clear tfr
      go_wp2
      refine bodyPost_ret (v := .agg #[.int .i64 6, .int .i64 s.at_, .string ⟨#[]⟩, .slice none 0 0, .slice A n c']) (by simp [results, Tryd.results54, go_sem, *]) rfl ?_
      exact ⟨⟨_, _, _, _, _, _, _, _, _, rfl⟩, box_done HSH.out.1 HSH.out.2.1 HSH.out.2.2.1 (by decide) hlW _ _ _ _ _⟩
     | true =>
      rw [if_pos rfl] at hr
      cases gk with
      | zero => simp [Js.members] at hr
      | succ k1 =>
       unfold Js.members at hr
       obtain ⟨c, rfl⟩ : ∃ c, c = c' := ⟨_, rfl⟩
       rcases hp : Js.peek t s' with y | ⟨d, s3⟩
       ·rw [hp] at hr
        obtain rfl := Option.some.inj hr
        have HPk := yM hp
        clear hr hp
        go_wp2_with (go_at_call 42; refine (peek_calls B rb t s' v' _ HA.out.rd).mono ?_; rintro e w2 hU; rw [HPk.out] at hU; obtain ⟨rfl, hc⟩ := hU; exact ⟨rfl, rfl, AI.thrown HA.out hc⟩)
       ·rw [hp] at hr
        dsimp only at hr
        have hpk3 := Js.peek_keep hp
        have hl3 := (peek_ok hp HA.out.rd.a1).1
        have HL3 := yM hl3
        have HPk := yM hp
        clear hp hl3
        go_upto_if 20 with (go_at_call 42; refine (peek_calls B rb t s' v' _ HA.out.rd).mono ?_; rintro e w2 hU; rw [HPk.out] at hU; obtain ⟨rfl, v3, hr3, hm3⟩ := hU; have HA3 := yM (AI.move HA.out hr3 hm3 hpk3); obtain ⟨_, c1, _, fr, lt⟩ := hr3.at_; clear hr3 hm3 fr)
        by_cases g : d = 34
        ·have k1' : (d != 34) = false := by simp [g]
         rw [if_pos g] at hr
         clear g c1 lt
         rcases hq : Js.quoted t s3 with y | s6
         ·rw [hq] at hr
          obtain rfl := Option.some.inj hr
          have HQ := yM hq
          clear hr hq
          go_wp2_with (go_at_call 56; refine (quoted_calls B rb t s3 v3 _ HA3.out.rd HL3.out).mono ?_; rintro e w6 hU; rw [HQ.out] at hU; obtain ⟨rfl, hc⟩ := hU; exact ⟨rfl, rfl, AI.thrown HA3.out hc⟩)
         ·rw [hq] at hr
          dsimp only at hr
          have hqk := Js.quoted_keep hq
          have HQ := yM hq
          clear hq
          go_upto_region 10 with (go_at_call 56; refine (quoted_calls B rb t s3 v3 _ HA3.out.rd HL3.out).mono ?_; rintro e w6 hU; rw [HQ.out] at hU; obtain ⟨⟨q, a', x, A', n', c', A2, n2, c2, rfl⟩, v6, hr6, hm6⟩ := hU; have HA6 := yM (AI.move HA3.out hr6 hm6 hqk); clear hr6 hm6)
          have HA6b := yM (show AI B rb t W (w6.alloc (.cells #[.int .i64 q, .int .i64 a', .string x, .slice A' n' c', .slice A2 n2 c2] 56)) s6 v v6 w1.heap.size #[.int .i64 6, .int .i64 s.at_, .string ⟨#[]⟩, .slice none 0 0, .slice A n c] 111 7 (.slice A n c) n from HA6.out.fr)
          rcases hs : Js.sign t ⟨#[58]⟩ s6 with y | ⟨d2, s7⟩
          ·rw [hs] at hr
           obtain rfl := Option.some.inj hr
           have HS := yM hs
           clear hr hs
           go_wp2_with (go_at_call 72; refine (sign_calls B rb t _ s6 v6 _ HA6b.out.rd).mono ?_; rintro e w7 hU; rw [HS.out] at hU; obtain ⟨rfl, hc⟩ := hU; exact ⟨rfl, rfl, AI.thrown HA6b.out hc⟩)
          ·rw [hs] at hr
           dsimp only at hr
           have hsk := Js.sign_keep hs
           have HS := yM hs
           clear hs
           go_wp2_with (go_at_call 72; refine (sign_calls B rb t _ s6 v6 _ HA6b.out.rd).mono ?_; rintro e w7 hU; rw [HS.out] at hU; obtain ⟨rfl, v7, hr7, hm7⟩ := hU; have HA7 := yM (AI.move HA6b.out hr7 hm7 hsk); have HX7 := yM (box_keep HA6b.out.rd hm7 (blk_new w6 _)); clear hr7 hm7)
           rcases hv : Js.value t k1 s7 with _ | y | s8
           ·rw [hv] at hr; cases hr
           ·rw [hv] at hr
            obtain rfl := Option.some.inj hr
            have HVk := yM (hV k1 (by have := HN.out; omega) s7 _ hv)
            clear hr hv
            refine start_ (n := 13) (S := fun w' => w'.cell? ⟨w1.heap.size, 4, none⟩ = some (.slice A n c) ∧ w'.cell? ⟨w6.heap.size, 2, none⟩ = some (.string x) ∧ w'.cell? ⟨w6.heap.size, 1, none⟩ = some (.int .i64 a')) (ds := [12]) #[false, false, false, false, false, false, false, false, false, false, false, false, false] (by kernel_rfl) rfl rfl ⟨(AI.c4fr HA7.out), (x2fr HX7.out), (x1fr HX7.out)⟩ (fun hHeld => ?_)
            refine pure_ (i := 0) (N := some 31) (v := ?_) (a' := ?_) #[true, false, false, false, false, false, false, false, false, false, false, false, false] rfl rfl (by kernel_rfl) (fun _ _ _ h => h) (Or.inl ⟨by rfl, ?_⟩) ?_ ?_
            rotate_left
            ·intro w'
             go_simp
             with_reducible rfl
            rotate_left
            ·simp only [Act.put, yX, yY, yZ, i64_w, i32_w]
             rfl
            refine pure_ (i := 2) (N := some 33) (v := ?_) (a' := ?_) #[true, false, true, false, false, false, false, false, false, false, false, false, false] rfl rfl (by kernel_rfl) (fun _ _ _ h => h) (Or.inl ⟨by rfl, ?_⟩) ?_ ?_
            rotate_left
            ·intro w'
             go_simp
             with_reducible rfl
            rotate_left
            ·simp only [Act.put, yX, yY, yZ, i64_w, i32_w]
             rfl
            refine pure_ (i := 4) (N := some 35) (v := ?_) (a' := ?_) #[true, false, true, false, true, false, false, false, false, false, false, false, false] rfl rfl (by kernel_rfl) (fun _ _ _ h => h) (Or.inl ⟨by rfl, ?_⟩) ?_ ?_
            rotate_left
            ·intro w'
             go_simp
             with_reducible rfl
            rotate_left
            ·simp only [Act.put, yX, yY, yZ, i64_w, i32_w]
             rfl
            refine pure_ (i := 6) (N := some 37) (v := ?_) (a' := ?_) #[true, false, true, false, true, false, true, false, false, false, false, false, false] rfl rfl (by kernel_rfl) (fun _ _ _ h => h) (Or.inl ⟨by rfl, ?_⟩) ?_ ?_
            rotate_left
            ·intro w'
             go_simp
             with_reducible rfl
            rotate_left
            ·simp only [Act.put, yX, yY, yZ, i64_w, i32_w]
             rfl
            refine take_ (i := 1) (N := some 32) (v := ?_) (a' := ?_) #[true, true, true, false, true, false, true, false, false, false, false, false, false] rfl rfl (by kernel_rfl) (fun _ _ _ h => h) (Or.inl ⟨by rfl, ?_⟩) hHeld ?_ ?_
            rotate_left
            ·rintro w' ⟨s0, s1, s2⟩
             go_simp
             with_reducible rfl
            rotate_left
            ·simp only [Act.put, yX, yY, yZ, i64_w, i32_w]
             rfl
            refine take_ (i := 3) (N := some 34) (v := ?_) (a' := ?_) #[true, true, true, true, true, false, true, false, false, false, false, false, false] rfl rfl (by kernel_rfl) (fun _ _ _ h => h) (Or.inl ⟨by rfl, ?_⟩) hHeld ?_ ?_
            rotate_left
            ·rintro w' ⟨s0, s1, s2⟩
             go_simp
             with_reducible rfl
            rotate_left
            ·simp only [Act.put, yX, yY, yZ, i64_w, i32_w]
             rfl
            refine take_ (i := 5) (N := some 36) (v := ?_) (a' := ?_) #[true, true, true, true, true, true, true, false, false, false, false, false, false] rfl rfl (by kernel_rfl) (fun _ _ _ h => h) (Or.inl ⟨by rfl, ?_⟩) hHeld ?_ ?_
            rotate_left
            ·rintro w' ⟨s0, s1, s2⟩
             go_simp
             with_reducible rfl
            rotate_left
            ·simp only [Act.put, yX, yY, yZ, i64_w, i32_w]
             rfl
            refine one_ (i := 7) (N := some 38) #[true, true, true, true, true, true, true, true, false, false, false, false, false] rfl rfl (by kernel_rfl) (by decide) (fun K hK => ?_)
            refine goesP_ Tryd.func30 (by kernel_rfl) rfl #[.pointer (some ⟨rb, 0, none⟩)] (by rfl) rfl rfl (by simp only [List.map_toArray, List.map_cons, List.map_nil]; rfl) ?_
            refine (HVk.out _ _ HA7.out.fr.rd).mono ?_
            rintro e w8 ⟨rfl, hc⟩
            exact Or.inr ⟨_, rfl, rfl, rfl, AI.thrown (show AI B rb t W w7.drew s7 v v7 w1.heap.size #[.int .i64 6, .int .i64 s.at_, .string ⟨#[]⟩, .slice none 0 0, .slice A n c] 111 7 (.slice A n c) n from HA7.out.fr) hc⟩
           ·rw [hv] at hr
            dsimp only at hr
            have hkp := (Js.keep t k1).1 _ _ hv
            have HVk := yM (hV k1 (by have := HN.out; omega) s7 _ hv)
            have HR := yM hr
            clear hr hv
            refine start_ (n := 13) (S := fun w' => w'.cell? ⟨w1.heap.size, 4, none⟩ = some (.slice A n c) ∧ w'.cell? ⟨w6.heap.size, 2, none⟩ = some (.string x) ∧ w'.cell? ⟨w6.heap.size, 1, none⟩ = some (.int .i64 a')) (ds := [12]) #[false, false, false, false, false, false, false, false, false, false, false, false, false] (by kernel_rfl) rfl rfl ⟨(AI.c4fr HA7.out), (x2fr HX7.out), (x1fr HX7.out)⟩ (fun hHeld => ?_)
            refine pure_ (i := 0) (N := some 31) (v := ?_) (a' := ?_) #[true, false, false, false, false, false, false, false, false, false, false, false, false] rfl rfl (by kernel_rfl) (fun _ _ _ h => h) (Or.inl ⟨by rfl, ?_⟩) ?_ ?_
            rotate_left
            ·intro w'
             go_simp
             with_reducible rfl
            rotate_left
            ·simp only [Act.put, yX, yY, yZ, i64_w, i32_w]
             rfl
            refine pure_ (i := 2) (N := some 33) (v := ?_) (a' := ?_) #[true, false, true, false, false, false, false, false, false, false, false, false, false] rfl rfl (by kernel_rfl) (fun _ _ _ h => h) (Or.inl ⟨by rfl, ?_⟩) ?_ ?_
            rotate_left
            ·intro w'
             go_simp
             with_reducible rfl
            rotate_left
            ·simp only [Act.put, yX, yY, yZ, i64_w, i32_w]
             rfl
            refine pure_ (i := 4) (N := some 35) (v := ?_) (a' := ?_) #[true, false, true, false, true, false, false, false, false, false, false, false, false] rfl rfl (by kernel_rfl) (fun _ _ _ h => h) (Or.inl ⟨by rfl, ?_⟩) ?_ ?_
            rotate_left
            ·intro w'
             go_simp
             with_reducible rfl
            rotate_left
            ·simp only [Act.put, yX, yY, yZ, i64_w, i32_w]
             rfl
            refine pure_ (i := 6) (N := some 37) (v := ?_) (a' := ?_) #[true, false, true, false, true, false, true, false, false, false, false, false, false] rfl rfl (by kernel_rfl) (fun _ _ _ h => h) (Or.inl ⟨by rfl, ?_⟩) ?_ ?_
            rotate_left
            ·intro w'
             go_simp
             with_reducible rfl
            rotate_left
            ·simp only [Act.put, yX, yY, yZ, i64_w, i32_w]
             rfl
            refine take_ (i := 1) (N := some 32) (v := ?_) (a' := ?_) #[true, true, true, false, true, false, true, false, false, false, false, false, false] rfl rfl (by kernel_rfl) (fun _ _ _ h => h) (Or.inl ⟨by rfl, ?_⟩) hHeld ?_ ?_
            rotate_left
            ·rintro w' ⟨s0, s1, s2⟩
             go_simp
             with_reducible rfl
            rotate_left
            ·simp only [Act.put, yX, yY, yZ, i64_w, i32_w]
             rfl
            refine take_ (i := 3) (N := some 34) (v := ?_) (a' := ?_) #[true, true, true, true, true, false, true, false, false, false, false, false, false] rfl rfl (by kernel_rfl) (fun _ _ _ h => h) (Or.inl ⟨by rfl, ?_⟩) hHeld ?_ ?_
            rotate_left
            ·rintro w' ⟨s0, s1, s2⟩
             go_simp
             with_reducible rfl
            rotate_left
            ·simp only [Act.put, yX, yY, yZ, i64_w, i32_w]
             rfl
            refine take_ (i := 5) (N := some 36) (v := ?_) (a' := ?_) #[true, true, true, true, true, true, true, false, false, false, false, false, false] rfl rfl (by kernel_rfl) (fun _ _ _ h => h) (Or.inl ⟨by rfl, ?_⟩) hHeld ?_ ?_
            rotate_left
            ·rintro w' ⟨s0, s1, s2⟩
             go_simp
             with_reducible rfl
            rotate_left
            ·simp only [Act.put, yX, yY, yZ, i64_w, i32_w]
             rfl
            refine one_ (i := 7) (N := some 38) #[true, true, true, true, true, true, true, true, false, false, false, false, false] rfl rfl (by kernel_rfl) (by decide) (fun K hK => ?_)
            refine goesP_ Tryd.func30 (by kernel_rfl) rfl #[.pointer (some ⟨rb, 0, none⟩)] (by rfl) rfl rfl (by simp only [List.map_toArray, List.map_cons, List.map_nil]; rfl) ?_
            refine (HVk.out _ _ HA7.out.fr.rd).mono ?_
            rintro e w8 ⟨⟨q3, a3, x3, A3, n3, c3, A4, n4, c4, rfl⟩, v8, hr8, hm8⟩
            have HA8 := yM (AI.move HA7.out.fr hr8 hm8 hkp)
            have HX8 := yM (box_keep (w := w7.drew) HA7.out.fr.rd hm8 (xcells (w2 := w7.drew) HX7.out))
            clear hr8 hm8
            refine Or.inl ⟨_, rfl, ?_⟩
            refine hK.out _ _ ⟨(AI.c4 HA8.out), (x2fr (w2 := w8) HX8.out), (x1fr (w2 := w8) HX8.out)⟩ (fun hHeld => ?_)
            clear hK K
            refine norm_ (a' := ?_) ?_ ?_
            rotate_left
            ·show Act.put _ (some 38) _ = _
             simp only [Act.put, yX, yY, yZ, i64_w, i32_w]
             rfl
            refine pure_ (i := 8) (N := some 39) (v := ?_) (a' := ?_) #[true, true, true, true, true, true, true, true, true, false, false, false, false] rfl rfl (by kernel_rfl) (fun _ _ _ h => h) (Or.inl ⟨by rfl, ?_⟩) ?_ ?_
            rotate_left
            ·intro w'
             go_simp
             with_reducible rfl
            rotate_left
            ·simp only [Act.put, yX, yY, yZ, i64_w, i32_w]
             rfl
            refine one_ (i := 9) (N := some 40) #[true, true, true, true, true, true, true, true, true, true, false, false, false] rfl rfl (by kernel_rfl) (by decide) (fun K hK => ?_)
            refine value_ (w1 := ?_) (v := ?_) (by rfl) rfl ?_ ?_
            rotate_left 2
            ·go_simp
             constructor
             ·rfl
             ·rfl
            refine hK.out _ _ ⟨(AI.c4fr HA8.out), (x2fr HX8.out), (x1fr HX8.out)⟩ (fun hHeld => ?_)
            clear hK K
            refine norm_ (a' := ?_) ?_ ?_
            rotate_left
            ·show Act.put _ (some 40) _ = _
             simp only [Act.put, yX, yY, yZ, i64_w, i32_w]
             rfl
            refine one_ (i := 10) (N := some 41) #[true, true, true, true, true, true, true, true, true, true, true, false, false] rfl rfl (by kernel_rfl) (by decide) (fun K hK => ?_)
            obtain ⟨xs, hxs⟩ := (show AI B rb t W (w8.alloc (.cells #[.string x, .int .i64 a', .int .i64 q3, .int .i64 a3, .string x3, .slice A3 n3 c3, .slice A4 n4 c4] 111)) s8 v v8 w1.heap.size #[.int .i64 6, .int .i64 s.at_, .string ⟨#[]⟩, .slice none 0 0, .slice A n c] 111 7 (.slice A n c) n from HA8.out.fr).own
            refine app_step (w1.heap.size + 1) 54 111 (.agg #[.string ⟨#[]⟩, .int .i64 0, .int .i64 0, .int .i64 0, .string ⟨#[]⟩, .slice none 0 0, .slice none 0 0]) 7 104 (by rfl) (.tmp 32) (.tmp 40) rfl Tryd.underlying54 info111 rfl (by decide) (by decide) (.slice A n c) n xs (by simp [Act.eval, Act.put]) hxs w8.heap.size [.string x, .int .i64 a', .int .i64 q3, .int .i64 a3, .string x3, .slice A3 n3 c3, .slice A4 n4 c4] (by simp [Act.eval, Act.put]) (blk_new w8 _) rfl (by intro y hy; simp at hy; rcases hy with rfl | rfl | rfl | rfl | rfl | rfl | rfl <;> rfl) (by have := HN.out; omega) (by have := (Array.getElem?_eq_some_iff.1 HA8.out.b).1; simp; omega) ?_
            intro A9 c9 w9 ho9 hg9
            have HA9 := yM (AI.grown (show AI B rb t W (w8.alloc (.cells #[.string x, .int .i64 a', .int .i64 q3, .int .i64 a3, .string x3, .slice A3 n3 c3, .slice A4 n4 c4] 111)) s8 v v8 w1.heap.size #[.int .i64 6, .int .i64 s.at_, .string ⟨#[]⟩, .slice none 0 0, .slice A n c] 111 7 (.slice A n c) n from HA8.out.fr) hg9 ho9)
            have HX9 := yM ((hg9.block _ (Array.getElem?_eq_some_iff.1 (xcells (w2 := (w8.alloc (.cells #[.string x, .int .i64 a', .int .i64 q3, .int .i64 a3, .string x3, .slice A3 n3 c3, .slice A4 n4 c4] 111))) HX8.out)).1 (fun q => own_neq hxs (xcells (w2 := (w8.alloc (.cells #[.string x, .int .i64 a', .int .i64 q3, .int .i64 a3, .string x3, .slice A3 n3 c3, .slice A4 n4 c4] 111))) HX8.out) (by decide) q.symm)).trans (xcells (w2 := (w8.alloc (.cells #[.string x, .int .i64 a', .int .i64 q3, .int .i64 a3, .string x3, .slice A3 n3 c3, .slice A4 n4 c4] 111))) HX8.out))
            clear hxs ho9 hg9
            obtain ⟨_, _, _, _, z9, zf9, zl9⟩ := vcells HA9.out.b
            have zf93 := zf9 4
            clear zf9
            refine hK.out _ _ ⟨(AI.c4 HA9.out), (vcells HX9.out).2.2.1, (vcells HX9.out).2.1⟩ (fun hHeld => ?_)
            clear hK K
            refine norm_ (a' := ?_) ?_ ?_
            rotate_left
            ·show Act.put _ (some 41) _ = _
             simp only [Act.put, yX, yY, yZ, i64_w, i32_w]
             rfl
            refine pure_ (i := 11) (N := some 42) (v := ?_) (a' := ?_) #[true, true, true, true, true, true, true, true, true, true, true, true, false] rfl rfl (by kernel_rfl) (fun _ _ _ h => h) (Or.inl ⟨by rfl, ?_⟩) ?_ ?_
            rotate_left
            ·intro w'
             go_simp
             with_reducible rfl
            rotate_left
            ·simp only [Act.put, yX, yY, yZ, i64_w, i32_w]
             rfl
            refine last_ (i := 12) (N := none) #[true, true, true, true, true, true, true, true, true, true, true, true, true] rfl rfl (by kernel_rfl) (by decide) (fun K hK => ?_)
            refine skip_ (w1 := ?_) (by rfl) rfl ?_ ?_
            rotate_left
            ·go_simp
             rfl
            refine hK.out _ _ ?_
            clear hK K
            refine done_ (by kernel_rfl) ?_
            have HA10 := yM (show AI B rb t W (w9.setCell ⟨w1.heap.size, 4, none⟩ (.slice A9 (n + 1) c9)) s8 v v8 w1.heap.size #[.int .i64 6, .int .i64 s.at_, .string ⟨#[]⟩, .slice none 0 0, .slice A9 (n + 1) c9] 111 7 (.slice A9 (n + 1) c9) (n + 1) from HA9.out.put 4 _)
            clear HA HA3 HA6 HA6b HA7 HA8 HA9 HX7 HX8 HX9 z9 zf93 zl9 hHeld HVk
            have hr := HR.out
            clear HR
            rcases hs2 : Js.sign t ⟨#[44, 125]⟩ s8 with y | ⟨d3, s4⟩
            ·rw [hs2] at hr
             obtain rfl := Option.some.inj hr
             have HS2 := yM hs2
             clear hr hs2
             go_wp2_with (go_at_call 72; refine (sign_calls B rb t _ s8 v8 _ HA10.out.rd).mono ?_; rintro e w5 hU; rw [HS2.out] at hU; obtain ⟨rfl, hc⟩ := hU; exact ⟨rfl, rfl, AI.thrown HA10.out hc⟩)
            ·rw [hs2] at hr
             dsimp only at hr
             have hsk2 := Js.sign_keep hs2
             have HS2 := yM hs2
             have HR := yM hr
             clear hr hs2
             go_wp2_with (go_at_call 72; refine (sign_calls B rb t _ s8 v8 _ HA10.out.rd).mono ?_; rintro e w5 hU; rw [HS2.out] at hU; obtain ⟨rfl, v5, hr5, hm5⟩ := hU; have HA5 := yM (AI.move HA10.out hr5 hm5 hsk2); clear hr5 hm5)
             go_roundg k1
             case measure => omega
             case rel =>
              refine ⟨d3 == 44, s4, v5, A9, n + 1, c9, rfl, ⟨?_⟩, ⟨by have := HN.out; omega⟩, HA5⟩
              have hr := HR.out
              by_cases q : d3 = 44
              ·rw [if_pos (beq_iff_eq.mpr q)]; rw [if_pos q] at hr; exact hr
              ·rw [if_neg (fun e => q (eq_of_beq e))]; rw [if_neg q] at hr; exact hr
        ·have k1' : (d != 34) = true := bne_iff_ne.mpr g
         rw [if_neg g] at hr
         obtain rfl := Option.some.inj hr
         clear g hr
         go_wp2
         exact ⟨rfl, rfl, AI.thrown HA3.out (Ch.refl _ _)⟩
theorem vok (B rb : Nat) (t : ByteArray) : ∀ k, k ≤ 1099511627776 → VOK B rb t k := by
 intro k
 induction k using Nat.strongRecOn with
 | _ k ih =>
  intro hk
  cases k with
  | zero => intro s r hr; simp [Js.value] at hr
  | succ k =>
   refine value_calls B rb t k ?_ ?_
   ·cases k with
    | zero => intro s r hr; simp [Js.object] at hr
    | succ j => exact object_calls B rb t j (by omega) (fun i hi => ih i (by omega) (by omega))
   ·cases k with
    | zero => intro s r hr; simp [Js.array] at hr
    | succ j => exact array_calls B rb t j (by omega) (fun i hi => ih i (by omega) (by omega))
theorem cells5 : Tryd.prog.cellsOf 5 = 1 := by kernel_rfl
set_option maxHeartbeats 4000000 in
set_option maxRecDepth 100000 in
theorem String_calls (B rb : Nat) (t : ByteArray) (s : JS) (v : Value) (w : World) (h : Rd B rb t w s v) (h0 : s.out.size ≠ 0) :
  Calls Tryd.prog 17 #[.pointer (some ⟨rb, 3, none⟩)] w fun e w' => e = .returned (.string s.out) ∧ Below B w w' := by
 obtain ⟨P, _, hbk⟩ := h.blk
 have hown := h.own
 obtain ⟨g, cap, cur, rfl, hbg, hg, hnc, hcm, hcs, htake⟩ : ∃ g cap cur, v = .slice (some ⟨g, 0, none⟩) s.out.size cap ∧ B ≤ g ∧ w.heap[g]? = some (.cells cur 5 (0, 0)) ∧ s.out.size ≤ cap ∧ cap ≤ maxLen ∧ cur.size = cap * 1 ∧ cur.toList.take (s.out.size * 1) = Lib.strCells s.out := by
  rcases hown.2 with ⟨_, hz⟩ | h
  ·exact absurd hz h0
  ·exact h
 have c1 : w.drew.cell? ⟨rb, 4, none⟩ = some (.slice (some ⟨g, 0, none⟩) s.out.size cap) := (pcell (show w.drew.heap[rb]? = _ from hbk)).1 4 _ rfl
 have hl : s.out.data.toList.length = s.out.size := Array.length_toList
 have hSD : (Builtin.unsafeSliceData_ #[49] 76 #[.slice (some ⟨g, 0, none⟩) s.out.size cap]).run Tryd.prog w.drew = .ok (.pointer (some ⟨g, 0, none⟩)) w.drew :=
  Lib.run_unsafeSliceData_row _ _ _ _ _ _ (by omega)
 have hUS : (Builtin.unsafeString_ #[76, 3] 9 #[.pointer (some ⟨g, 0, none⟩), .int .i64 s.out.size]).run Tryd.prog w.drew = .ok (.string s.out) (w.drew.freeze ⟨g, 0, none⟩ s.out.size) := by
  have := Lib.run_unsafeString_row (P := Tryd.prog) w.drew 76 3 9 5 Tryd.underlying76 cells5 g cur.size (by have hg' : w.drew.heap[g]? = some (.cells cur 5 (0, 0)) := hg; simp [World.shape?, hg']) s.out.data.toList (fun e => h0 (by rw [← hl, e]; rfl)) (by rw [hl]; omega) (by rw [hl]; unfold maxLen at hcm; omega) (by
   intro j x hx
   have := hown.cells (g := g) rfl j (.int .u8 x.toNat) (by simp [Lib.strCells, hx])
   exact this)
  rw [hl] at this
  exact this
 have ht := h.ht
 have ho := h.o
 have ha1 := h.a1
 have lt := h.lt
 have mixed : Tryd.prog.follows Departure.mixedOrders = true := by kernel_rfl
 clear h hown hbk htake
 go_enter Tryd.func17, Tryd.ntmps17
 go_wp2
 go_region_o
 all_goals (go_wp2; go_ret; exact ⟨rfl, Lib.below_freeze (Below.drew (Below.refl B w)) (p := ⟨g, 0, none⟩) hbg _⟩)
def PostR (t : ByteArray) (W : World) (r : JR ByteArray) (e : Ending) (w' : World) : Prop :=
 match r with
 | .ok o => ∃ rb s v u, e = .returned (.tuple #[.pointer (some ⟨rb, 0, none⟩), u]) ∧ (∃ k a x A n c A2 n2 c2, u = .agg #[.int .i64 k, .int .i64 a, .string x, .slice A n c, .slice A2 n2 c2]) ∧ s.out = o ∧ Rd W.heap.size rb t w' s v ∧ Below W.heap.size W w'
 | .error x => e = thrown x.1 x.2 ∧ Below W.heap.size W w'
theorem Ch.to_below {S : Nat → Prop} {W w : World} (h : Ch S W w) (hs : ∀ k, k < W.heap.size → ¬ S k) : Below W.heap.size W w := h.below hs (Nat.le_refl _)
structure RI (W : World) (rb : Nat) (t : ByteArray) (s1 : JS) (b6 : Nat) (xs : Array Value) (v : Value) (w : World) (b : Int) : Prop where
 rd : Rd W.heap.size rb t w ⟨b, s1.op, s1.out⟩ v
 b0 : w.heap[W.heap.size]? = some (.cells #[.int .i64 0, .int .i64 0, .string ⟨#[]⟩, .slice none 0 0, .slice none 0 0] 56 (0, 0))
 bx : w.heap[b6]? = some (.cells xs 56 (0, 0))
 low : Ch (fun _ => False) W w
 h1 : W.heap.size < rb
 h2 : rb < b6
theorem RI.set {W : World} {rb : Nat} {t : ByteArray} {s1 : JS} {b6 : Nat} {xs : Array Value} {v : Value} {w : World} {b : Int} (h : RI W rb t s1 b6 xs v w b) (a : Int) (h0 : (s1.out.size : Int) ≤ a) (h1 : a ≤ (t.size : Int)) : RI W rb t s1 b6 xs v (w.setCell ⟨rb, 1, none⟩ (.int .i64 a)) a := by
 have k1 := h.h1
 have k2 := h.h2
 exact ⟨h.rd.set1 a h0 h1, (Below.heap_setCell w ⟨rb, 1, none⟩ _ _ (show W.heap.size ≠ rb by omega)).trans h.b0, (Below.heap_setCell w ⟨rb, 1, none⟩ _ _ (show b6 ≠ rb by omega)).trans h.bx, h.low.set (fun hlt => absurd hlt (by omega)) _, k1, k2⟩
set_option maxHeartbeats 4000000 in
set_option maxRecDepth 100000 in
theorem read_calls (t : ByteArray) (k : Nat) (hk : k ≤ 1099511627776) (r : JR ByteArray) (hr : Js.whole t k = some r) (W : World) (hL : LaidW W) :
  Calls Tryd.prog 16 #[.string t] W (PostR t W r) := by
 unfold Js.whole at hr
 by_cases g1 : (t.size : Int) > 67108864
 ·rw [if_pos g1] at hr
  obtain rfl := Option.some.inj hr
  have b1 : decide ((t.size : Int) > 67108864) = true := decide_eq_true g1
  clear g1 hr
  go_enter Tryd.func16, Tryd.ntmps16
  go_wp2
  exact ⟨rfl, rfl, bel⟩
 ·rw [if_neg g1] at hr
  have b1 : decide ((t.size : Int) > 67108864) = false := decide_eq_false g1
  have HT := yM g1
  have HL := yM (show LaidW (W.alloc (.cells #[.int .i64 0, .int .i64 0, .string ⟨#[]⟩, .slice none 0 0, .slice none 0 0] 56)) from LaidW.below hL bel)
  rcases hu : wire_Utf8.f k t with _ | u
  ·rw [hu] at hr; cases hr
  ·rw [hu] at hr
   dsimp only at hr
   have HU := yM (wire_Utf8.calls k t u _ hu HL.out)
   clear g1 hL hu
   by_cases g2 : u ≥ 0
   ·rw [if_pos g2] at hr
    obtain rfl := Option.some.inj hr
    have b2 : decide (u ≥ 0) = true := decide_eq_true g2
    clear g2 hr
    go_enter Tryd.func16, Tryd.ntmps16
    go_wp2_with (go_at_call 12; refine HU.out.mono ?_; rintro e w1 ⟨rfl, hb⟩; have HB := yM hb; clear hb)
    exact ⟨rfl, rfl, (ch_alloc (Ch.of_below HB.out (fun _ => False))).to_below (fun _ _ h => h)⟩
   ·rw [if_neg g2] at hr
    have b2 : decide (u ≥ 0) = false := decide_eq_false g2
    have HR := yM hr
    clear g2 hr
    go_enter Tryd.func16, Tryd.ntmps16
    go_upto_region 7 with (go_at_call 12; refine HU.out.mono ?_; rintro e w1 ⟨rfl, hb⟩; have HB := yM hb; clear hb)
    have hlow : Ch (fun _ => False) W w1 := ch_alloc (Ch.of_below HB.out (fun _ => False))
    have HRd := yM (show Rd W.heap.size w1.heap.size t (w1.alloc (.cells #[.string t, .int .i64 0, .int .i64 0, .pointer none, .slice none 0 0] 63)) ⟨0, 0, ⟨#[]⟩⟩ (.slice none 0 0) from
     ⟨⟨_, Or.inl rfl, blk_new w1 _⟩, ⟨rfl, .inl ⟨rfl, rfl⟩⟩, hlow.size, by have := HT.out; omega, Int.le_refl 0, Int.natCast_nonneg _, Int.le_refl 0, Int.le_refl 0, by decide⟩)
    have HLow := yM hlow
    have HZ := yM (show (w1.alloc (.cells #[.string t, .int .i64 0, .int .i64 0, .pointer none, .slice none 0 0] 63)).heap[W.heap.size]? = some (.cells #[.int .i64 0, .int .i64 0, .string ⟨#[]⟩, .slice none 0 0, .slice none 0 0] 56 (0, 0)) from ((Fr.out (w := w1) inferInstance).block _ (Nat.lt_of_lt_of_le (by simp) HB.out.size)).trans ((HB.out.block _ (by simp)).trans (blk_new W _)))
    have hlt1 : W.heap.size < w1.heap.size := Nat.lt_of_lt_of_le (by simp) HB.out.size
    clear hlow
    have hr := HR.out
    clear HR
    rcases hv : Js.value t k ⟨0, 0, ⟨#[]⟩⟩ with _ | x | s1
    ·rw [hv] at hr; cases hr
    ·rw [hv] at hr
     obtain rfl := Option.some.inj hr
     have HV := yM (vok W.heap.size w1.heap.size t k hk _ _ hv _ _ HRd.out)
     clear hr hv
     go_wp2_with (go_at_call 30; refine HV.out.mono ?_; rintro e w2 ⟨rfl, hc⟩; refine ⟨rfl, rfl, (HLow.out.trans ((Ch.refl (fun _ => False) w1).then_below ?_)).to_below (fun _ _ h => h)⟩; exact (ch_alloc hc).to_below (fun i hi h => h.elim (fun h => by omega) (fun h => by cases h)))
    ·rw [hv] at hr
     dsimp only at hr
     have HV := yM (vok W.heap.size w1.heap.size t k hk _ _ hv _ _ HRd.out)
     have HR := yM hr
     clear hr hv
     go_wp2_with (go_at_call 30; refine HV.out.mono ?_; rintro e w2 ⟨⟨q, a, x, A, n, c, A2, n2, c2, rfl⟩, v2, hr2, hm2⟩; have HR2 := yM hr2; have HM2 := yM hm2; clear hr2 hm2)
     have hl3 : Ch (fun _ => False) W (w2.alloc (.cells #[.int .i64 q, .int .i64 a, .string x, .slice A n c, .slice A2 n2 c2] 56)) := HLow.out.trans ((Ch.refl (fun _ => False) w1).then_below ((ch_alloc (HM2.out.ch.trans (Ch.refl _ w2))).to_below (fun i hi h => h.elim (fun h => by omega) (fun h => by cases h)))) |>.alloc _
     have hs3 : w1.heap.size < w2.heap.size := HR2.out.lt
     have HB3 := yM (show RI W w1.heap.size t s1 w2.heap.size #[.int .i64 q, .int .i64 a, .string x, .slice A n c, .slice A2 n2 c2] v2 (w2.alloc (.cells #[.int .i64 q, .int .i64 a, .string x, .slice A n c, .slice A2 n2 c2] 56)) s1.at_ from
      ⟨(show Rd W.heap.size w1.heap.size t (w2.alloc (.cells #[.int .i64 q, .int .i64 a, .string x, .slice A n c, .slice A2 n2 c2] 56)) ⟨s1.at_, s1.op, s1.out⟩ v2 from HR2.out.fr), ((Fr.out (w := w2) inferInstance).block _ (by omega)).trans ((HM2.out.ch.block _ (by simp; omega) (fun h => h.elim (fun h => by omega) (fun h => by cases h))).trans HZ.out), blk_new w2 _, hl3, hlt1, hs3⟩)
     clear HZ HM2 HR2 HV HLow HRd hl3
     go_loopg [] ((t.size : Int) - s1.at_).toNat (fun kq w' => ∃ b : Int, Aside0 (Js.skip t b = Js.skip t s1.at_ ∧ (t.size : Int) - b = kq) ∧ Aside0 (RI W w1.heap.size t s1 w2.heap.size #[.int .i64 q, .int .i64 a, .string x, .slice A n c, .slice A2 n2 c2] v2 w' b))
     case atStart => exact ⟨s1.at_, ⟨rfl, by have := HB3.out.rd.a1; have : s1.at_ ≤ (t.size : Int) := this; omega⟩, HB3⟩
     case round =>
      clear HB3
      obtain ⟨b, HE, HI⟩ := hrel
      obtain ⟨_, c1, _, fr, lt⟩ := HI.out.rd.at_
      replace c1 : wr.cell? ⟨w1.heap.size, 1, none⟩ = some (.int .i64 b) := c1
      have fr1 := fr 1
      have p0 : 0 ≤ b := HI.out.rd.a0
      have pt : b ≤ (t.size : Int) := HI.out.rd.a1
      have ht := HI.out.rd.ht
      clear fr
      have hx := bt_at t b
      by_cases h1 : b < (t.size : Int)
      ·have b3 : decide (b < (t.size : Int)) = true := decide_eq_true h1
       have q0 := eq_true p0
       have q1 := eq_true h1
       have HIn := yM (Tryd.strings_IndexByte ⟨#[32, 9, 10, 13]⟩ (bt t b))
       by_cases h2 : Js.blank (bt t b) = true
       ·have b4 : decide (Lib.indexByte [32, 9, 10, 13] (bt t b).toNat.toUInt8 < 0) = false := decide_eq_false (by have := yQ (show decide (0 ≤ Lib.indexByte [32, 9, 10, 13] (bt t b).toNat.toUInt8) = true from h2); omega)
        have e1 : wrap64 (b + 1) = b + 1 := w64 _ (by omega)
        cases gk with
        | zero => exact absurd HE.out.2 (by omega)
        | succ k1 =>
         go_wp2_with (go_at_call 29; refine (HIn.out _).mono ?_; rintro e w3 ⟨rfl, rfl⟩)
         go_roundg k1
         case measure => omega
         case rel => exact ⟨b + 1, ⟨by have := HE.out.1; rw [Js.skip_eq, if_pos h1, if_pos h2] at this; exact this, by have := HE.out.2; omega⟩, ⟨HI.out.set (b + 1) (by have := HI.out.rd.o; have : (s1.out.size : Int) ≤ b := this; omega) (by omega)⟩⟩
       ·have b4 : decide (Lib.indexByte [32, 9, 10, 13] (bt t b).toNat.toUInt8 < 0) = true := decide_eq_true (by have := of_decide_eq_false (show decide (0 ≤ Lib.indexByte [32, 9, 10, 13] (bt t b).toNat.toUInt8) = false from by simpa [Js.blank, Js.isIn] using h2); omega)
        have hsk : Js.skip t s1.at_ = b := by rw [← HE.out.1, Js.skip_eq, if_pos h1, if_neg h2]
        have hr := HR.out
        rw [hsk, if_pos h1] at hr
        obtain rfl := Option.some.inj hr
        clear hr hsk
        go_wp2_with (go_at_call 29; refine (HIn.out _).mono ?_; rintro e w3 ⟨rfl, rfl⟩)
        exact ⟨rfl, rfl, HI.out.low.to_below (fun _ _ h => h)⟩
      ·have b3 : decide (b < (t.size : Int)) = false := decide_eq_false h1
       have hsk : Js.skip t s1.at_ = b := by rw [← HE.out.1, Js.skip_eq, if_neg h1]
       have hr := HR.out
       rw [hsk, if_neg h1] at hr
       obtain rfl := Option.some.inj hr
       clear hr hsk
       obtain ⟨z0, z1, z2, z3, z4, zf, zl⟩ := vcells HI.out.bx
       obtain ⟨y0, y1, y2, y3, y4, yf, yl⟩ := vcells HI.out.b0
       have n1 : W.heap.size ≠ w2.heap.size := by have := HI.out.h1; have := HI.out.h2; omega
       have n2' : w2.heap.size ≠ W.heap.size := n1.symm
       go_wp2
       refine start_ (n := 4) (S := fun w' => w'.cell? ⟨w2.heap.size, 0, none⟩ = some (.int .i64 q) ∧ w'.cell? ⟨w2.heap.size, 1, none⟩ = some (.int .i64 a) ∧ w'.cell? ⟨w2.heap.size, 2, none⟩ = some (.string x) ∧ w'.cell? ⟨w2.heap.size, 3, none⟩ = some (.slice A n c) ∧ w'.cell? ⟨w2.heap.size, 4, none⟩ = some (.slice A2 n2 c2)) (ds := [3]) #[false, false, false, false] (by kernel_rfl) rfl rfl ⟨(by simpa using z0), (by simpa using z1), (by simpa using z2), (by simpa using z3), (by simpa using z4)⟩ (fun hHeld => ?_)
       refine pure_ (i := 0) (N := some 52) (v := ?_) (a' := ?_) #[true, false, false, false] rfl rfl (by kernel_rfl) (fun _ _ _ h => h) (Or.inl ⟨by rfl, ?_⟩) ?_ ?_
       rotate_left
       ·intro w'
        go_simp
        with_reducible rfl
       rotate_left
       ·simp only [Act.put, yX, yY, yZ, i64_w, i32_w]
        rfl
       refine pure_ (i := 2) (N := some 2) (v := ?_) (a' := ?_) #[true, false, true, false] rfl rfl (by kernel_rfl) (fun _ _ _ h => h) (Or.inl ⟨by rfl, ?_⟩) ?_ ?_
       rotate_left
       ·intro w'
        go_simp
        with_reducible rfl
       rotate_left
       ·simp only [Act.put, yX, yY, yZ, i64_w, i32_w]
        rfl
       refine take_ (i := 1) (N := some 53) (v := ?_) (a' := ?_) #[true, true, true, false] rfl rfl (by kernel_rfl) (fun _ _ _ h => h) (Or.inl ⟨by rfl, ?_⟩) hHeld ?_ ?_
       rotate_left
       ·rintro w' ⟨s0, s1, s2, s3, s4⟩
        go_simp
        with_reducible rfl
       rotate_left
       ·simp only [Act.put, yX, yY, yZ, i64_w, i32_w]
        rfl
       refine last_ (i := 3) (N := none) #[true, true, true, true] rfl rfl (by kernel_rfl) (by decide) (fun K hK => ?_)
       refine skip_ (w1 := ?_) (by rfl) rfl ?_ ?_
       rotate_left
       ·go_simp
        rfl
       refine hK.out _ _ ?_
       clear hK K
       refine done_ (by kernel_rfl) ?_
       go_wp2
       refine bodyPost_ret (v := .tuple #[.pointer (some ⟨w1.heap.size, 0, none⟩), .agg #[.int .i64 q, .int .i64 a, .string x, .slice A n c, .slice A2 n2 c2]]) (by simp [results, Tryd.results16, go_sem, *]) rfl ?_
       have hc := ch5 W.heap.size wr.drew (.int .i64 q) (.int .i64 a) (.string x) (.slice A n c) (.slice A2 n2 c2)
       have hrd : Rd W.heap.size w1.heap.size t wr.drew ⟨b, s1.op, s1.out⟩ v2 := HI.out.rd.fr
       exact ⟨w1.heap.size, ⟨b, s1.op, s1.out⟩, v2, _, rfl, ⟨_, _, _, _, _, _, _, _, _, rfl⟩, rfl, hrd.far hc HI.out.b0 (by decide) (by omega), ((HI.out.low.drew.mono (S' := fun k => k = W.heap.size) (fun _ _ h => h.elim)).trans hc).to_below (fun k hk e => by have : k = W.heap.size := e; omega)⟩
theorem c4 {w : World} {g : Nat} {a b c d : Value} {T : Nat} (h : w.heap[g]? = some (.cells #[a, b, c, d] T (0, 0))) : w.cell? ⟨g, 0, none⟩ = some a ∧ w.cell? ⟨g, 1, none⟩ = some b ∧ w.cell? ⟨g, 2, none⟩ = some c ∧ w.cell? ⟨g, 3, none⟩ = some d ∧ (∀ j, w.frozen? ⟨g, j, none⟩ = false) ∧ g < w.heap.size :=
 have g := pcell h
 ⟨g.1 0 _ rfl, g.1 1 _ rfl, g.1 2 _ rfl, g.1 3 _ rfl, g.2.1, g.2.2⟩
theorem bx_new {w : World} {g : Nat} {cs : Array Value} {T : Nat} (h : w.heap[g]? = some (.cells cs T (0, 0))) (o : Obj) : (w.alloc o).heap[g]? = some (.cells cs T (0, 0)) := ((Fr.out (w := w) (w' := w.alloc o) inferInstance).block g (Array.getElem?_eq_some_iff.1 h).1).trans h
theorem put4 {w : World} {g : Nat} {v0 v1 v2 v3 : Value} {T : Nat} (h : w.heap[g]? = some (.cells #[v0, v1, v2, v3] T (0, 0))) (a b c d : Value) : ((((w.setCell ⟨g, 0, none⟩ a).setCell ⟨g, 1, none⟩ b).setCell ⟨g, 2, none⟩ c).setCell ⟨g, 3, none⟩ d).heap[g]? = some (.cells #[a, b, c, d] T (0, 0)) :=
 pset (pset (pset (pset h 0 a) 1 b) 2 c) 3 d
theorem ch4 (g : Nat) (w : World) (a b c d : Value) : Ch (· = g) w ((((w.setCell ⟨g, 0, none⟩ a).setCell ⟨g, 1, none⟩ b).setCell ⟨g, 2, none⟩ c).setCell ⟨g, 3, none⟩ d) :=
 ((((Ch.refl (fun k => k = g) w).set (fun _ => rfl) a).set (fun _ => rfl) b).set (fun _ => rfl) c).set (fun _ => rfl) d
set_option maxHeartbeats 4000000 in
set_option maxRecDepth 100000 in
theorem caught_idle (g1 : Nat) (w : World) :
  CallsD Tryd.prog 15 #[.pointer (some ⟨g1, 0, none⟩)] .returning w fun e u' w' => e = .returned (.tuple #[]) ∧ u' = .returning ∧ w' = w := by
 refine callsD_of_wpS Tryd.func15 rfl fun c₀ cs hu => ?_
 apply wpS_seq
 apply wpS_region
 simp [wpOpsS, go_sem, recoverD, hu, Tryd.ntmps15, Exit.thenS]
 refine wpS_of_wp ?_
 rw [show (#[Value.pointer (some ⟨g1, 0, none⟩)] ++ (Array.replicate 17 undef).setIfInBounds 4 Value.nilIface : Array Value) = #[Value.pointer (some ⟨g1, 0, none⟩), undef, undef, undef, undef, Value.nilIface, undef, undef, undef, undef, undef, undef, undef, undef, undef, undef, undef, undef] from rfl]
 go_wp2
 cases c₀
 simp only at hu
 subst hu
 exact ⟨rfl, _, rfl, .tuple #[], by simp [results, Tryd.results15, go_sem], rfl, rfl, rfl⟩
set_option maxHeartbeats 4000000 in
set_option maxRecDepth 100000 in
theorem caught_stop (g1 : Nat) (er at_ : Int) (v0 v1 v2 v3 : Value) (older : List PanicEntry) (w : World) (h1 : w.heap[g1]? = some (.cells #[v0, v1, v2, v3] 35 (0, 0))) :
  CallsD Tryd.prog 15 #[.pointer (some ⟨g1, 0, none⟩)] (.panicking ({ v := .iface 74 (.agg #[.int .i64 er, .int .i64 at_]), recovered := false } :: older)) w fun e u' w' =>
   e = .returned (.tuple #[]) ∧ u' = .panicking ({ v := .iface 74 (.agg #[.int .i64 er, .int .i64 at_]), recovered := true } :: older) ∧ Ch (· = g1) w w' ∧ w'.heap[g1]? = some (.cells #[.int .i64 er, .int .i64 0, .int .i64 at_, .string ⟨#[]⟩] 35 (0, 0)) := by
 obtain ⟨b0, b1, b2, b3, bf, bl⟩ := c4 h1
 have d0 := bf 0
 have d1 := bf 1
 have d2 := bf 2
 have d3 := bf 3
 have H1 := yM h1
 have n1 : g1 ≠ w.heap.size := by omega
 have n2 : w.heap.size ≠ g1 := by omega
 clear bf h1
 refine callsD_of_wpS Tryd.func15 rfl fun c₀ cs hu => ?_
 apply wpS_seq
 apply wpS_region
 simp [wpOpsS, go_sem, recoverD, hu, Tryd.ntmps15, Exit.thenS]
 refine wpS_of_wp ?_
 rw [show (#[Value.pointer (some ⟨g1, 0, none⟩)] ++ (Array.replicate 17 undef).setIfInBounds 4 (Value.iface 74 (.agg #[.int .i64 er, .int .i64 at_])) : Array Value) = #[Value.pointer (some ⟨g1, 0, none⟩), undef, undef, undef, undef, Value.iface 74 (.agg #[.int .i64 er, .int .i64 at_]), undef, undef, undef, undef, undef, undef, undef, undef, undef, undef, undef, undef] from rfl]
 have hta : ∀ (v : Value) (w : World), (Instr.typeAssert (.iface 74 v) 20 74 true).run Tryd.prog w = .ok (.tuple #[v, .bool true]) w := fun v w => by kernel_rfl
 have hx0 : ∀ (u v : Value) (w : World), (Instr.extract (.tuple #[u, v]) 0).run Tryd.prog w = .ok u w := fun u v w => by kernel_rfl
 have hx1 : ∀ (u v : Value) (w : World), (Instr.extract (.tuple #[u, v]) 1).run Tryd.prog w = .ok v w := fun u v w => by kernel_rfl
 go_wp2
 have hh := bx_new (put4 H1.out (.int .i64 er) (.int .i64 0) (.int .i64 at_) (.string ⟨#[]⟩)) (.cells #[.int .i64 er, .int .i64 at_] 74)
 have hc := (ch4 g1 w (.int .i64 er) (.int .i64 0) (.int .i64 at_) (.string ⟨#[]⟩)).alloc (.cells #[.int .i64 er, .int .i64 at_] 74)
 clear hta hx0 hx1 b0 b1 b2 b3 d0 d1 d2 d3
 refine ⟨rfl, _, rfl, .tuple #[], by simp [results, Tryd.results15, go_sem], rfl, rfl, ?_, ?_⟩
 ·exact hc
 ·exact hh
def PostC (W : World) (r : JR ByteArray) (e : Ending) (w' : World) : Prop :=
 (match r with
 | .ok o => e = .returned (.tuple #[.string o, .agg #[.int .i64 0, .int .i64 0, .int .i64 0, .string ⟨#[]⟩]])
 | .error x => e = .returned (.tuple #[.string ⟨#[]⟩, .agg #[.int .i64 x.1, .int .i64 0, .int .i64 x.2, .string ⟨#[]⟩]])) ∧ Below W.heap.size W w'
set_option maxHeartbeats 4000000 in
set_option maxRecDepth 100000 in
theorem compact_calls (t : ByteArray) (k : Nat) (hk : k ≤ 1099511627776) (r : JR ByteArray) (hr : Js.whole t k = some r) (hne : ∀ o, r = .ok o → o.size ≠ 0) (W : World) (hL : LaidW W) :
  Calls Tryd.prog 10 #[.string t] W (PostC W r) := by
 have HC := yM (read_calls t k hk r hr (W.alloc (.cells #[.int .i64 0, .int .i64 0, .int .i64 0, .string ⟨#[]⟩] 35)) (LaidW.below hL bel))
 have HN := yM hne
 have hbx0 := blk_new W (.cells #[.int .i64 0, .int .i64 0, .int .i64 0, .string ⟨#[]⟩] 35)
 have HB0 := yM hbx0
 clear hr hL hne hbx0
 rcases r with x | o
 ·go_enter_defers Tryd.func10, Tryd.ntmps10
  go_wp2_with (go_at_call 16; refine HC.out.mono ?_; rintro e w1 ⟨rfl, hb⟩; have HB := yM hb; have HX := yM ((hb.block W.heap.size (by simp)).trans HB0.out); clear hb)
  refine leaves_cons (f := 15) (args := #[.pointer (some ⟨W.heap.size, 0, none⟩)]) (by simp) (by simp [go_sem]) ?_
  refine (caught_stop W.heap.size x.1 x.2 _ _ _ _ [] w1 HX.out).mono ?_
  rintro e u' w9 ⟨rfl, rfl, hC9, q1⟩
  obtain ⟨b0, b1, b2, b3, _, _⟩ := c4 q1
  show Leaves Tryd.prog _ _ _ [] FrameMode.returning w9
  refine ⟨.tuple #[.string ⟨#[]⟩, .agg #[.int .i64 x.1, .int .i64 0, .int .i64 x.2, .string ⟨#[]⟩]], by simp [results, Tryd.results10, go_sem, b0, b1, b2, b3], rfl, ?_⟩
  exact (((ch_alloc (Ch.of_below HB.out (fun _ => False))).mono (S' := fun k => k = W.heap.size) (fun _ _ h => h.elim)).trans hC9).to_below (fun k hk e => by have : k = W.heap.size := e; omega)
 ·go_enter_defers Tryd.func10, Tryd.ntmps10
  go_wp2_with (go_at_call 16; refine HC.out.mono ?_; rintro e w1 ⟨rb, s, v, u, rfl, ⟨q, a, x, A, n, c, A2, n2, c2, rfl⟩, rfl, hr1, hb⟩; have HB := yM hb; have HX := yM ((hb.block W.heap.size (by simp)).trans HB0.out); have HR := yM hr1; clear hb hr1)
  obtain ⟨w2, hw2⟩ : ∃ w2, w2 = w1.alloc (.cells #[.int .i64 q, .int .i64 a, .string x, .slice A n c, .slice A2 n2 c2] 56) := ⟨_, rfl⟩
  have HX2 := yM (show w2.heap[W.heap.size]? = _ from hw2 ▸ bx_new HX.out (.cells #[.int .i64 q, .int .i64 a, .string x, .slice A n c, .slice A2 n2 c2] 56))
  have HR2 := yM (show Rd _ rb t w2 s v from hw2 ▸ (show Rd _ rb t (w1.alloc (.cells #[.int .i64 q, .int .i64 a, .string x, .slice A n c, .slice A2 n2 c2] 56)) s v from HR.out.fr))
  have HB2 := yM (show Ch (fun _ => False) W w2 from hw2 ▸ (ch_alloc (Ch.of_below HB.out (fun _ => False))).alloc (.cells #[.int .i64 q, .int .i64 a, .string x, .slice A n c, .slice A2 n2 c2] 56))
  rw [← hw2]
  obtain ⟨z0, z1, z2, z3, zf, zl⟩ := c4 HX2.out
  clear hw2 HX HR HB zf
  have HN2 := yM (HN.out _ rfl)
  refine wp_region_noPanic ?_
  refine start_ (n := 7) (S := fun w' => w'.cell? ⟨W.heap.size, 0, none⟩ = some (.int .i64 0) ∧ w'.cell? ⟨W.heap.size, 1, none⟩ = some (.int .i64 0) ∧ w'.cell? ⟨W.heap.size, 2, none⟩ = some (.int .i64 0) ∧ w'.cell? ⟨W.heap.size, 3, none⟩ = some (.string ⟨#[]⟩)) (ds := [6]) #[false, false, false, false, false, false, false] (by kernel_rfl) rfl rfl ⟨(by simpa using z0), (by simpa using z1), (by simpa using z2), (by simpa using z3)⟩ (fun hHeld => ?_)
  refine pure_ (i := 0) (N := some 11) (v := ?_) (a' := ?_) #[true, false, false, false, false, false, false] rfl rfl (by kernel_rfl) (fun _ _ _ h => h) (Or.inl ⟨by rfl, ?_⟩) ?_ ?_
  rotate_left
  ·intro w'
   go_simp
   with_reducible rfl
  rotate_left
  ·simp only [Act.put, yX, yY, yZ, i64_w, i32_w]
   rfl
  refine pure_ (i := 1) (N := some 12) (v := ?_) (a' := ?_) #[true, true, false, false, false, false, false] rfl rfl (by kernel_rfl) (fun _ _ _ h => h) (Or.inl ⟨by rfl, ?_⟩) ?_ ?_
  rotate_left
  ·intro w'
   go_simp
   with_reducible rfl
  rotate_left
  ·simp only [Act.put, yX, yY, yZ, i64_w, i32_w]
   rfl
  refine pure_ (i := 2) (N := some 13) (v := ?_) (a' := ?_) #[true, true, true, false, false, false, false] rfl rfl (by kernel_rfl) (fun _ _ _ h => h) (Or.inl ⟨by rfl, ?_⟩) ?_ ?_
  rotate_left
  ·intro w'
   go_simp
   with_reducible rfl
  rotate_left
  ·simp only [Act.put, yX, yY, yZ, i64_w, i32_w]
   rfl
  refine take_ (i := 4) (N := some 15) (v := ?_) (a' := ?_) #[true, true, true, false, true, false, false] rfl rfl (by kernel_rfl) (fun _ _ _ h => h) (Or.inl ⟨by rfl, ?_⟩) hHeld ?_ ?_
  rotate_left
  ·rintro w' ⟨s0, s1, s2, s3⟩
   go_simp
   with_reducible rfl
  rotate_left
  ·simp only [Act.put, yX, yY, yZ, i64_w, i32_w]
   rfl
  refine one_ (i := 3) (N := some 14) #[true, true, true, true, true, false, false] rfl rfl (by kernel_rfl) (by decide) (fun K hK => ?_)
  refine goes_ Tryd.func17 (by kernel_rfl) rfl #[.pointer (some ⟨rb, 3, none⟩)] (by rfl) rfl rfl (by simp only [List.map_toArray, List.map_cons, List.map_nil]; rfl) ?_
  with_reducible refine (String_calls _ rb t s v _ HR2.out.fr HN2.out).mono ?_
  rintro e w3 ⟨rfl, hb⟩
  have HX3 := yM ((hb.block W.heap.size (by simp)).trans (show w2.drew.heap[W.heap.size]? = _ from HX2.out))
  have HB3 := yM (show Ch (fun _ => False) W w3 from ⟨hb.os.trans HB2.out.os, hb.tape.trans HB2.out.tape, hb.output.trans HB2.out.output, Nat.le_trans HB2.out.size hb.size, fun i hi hn => (hb.block i (by simp; omega)).trans (HB2.out.block i hi hn)⟩)
  obtain ⟨x0, x1, x2, x3, xf, xl⟩ := c4 HX3.out
  have xf0 := xf 0
  have xf1 := xf 1
  have xf2 := xf 2
  have xf3 := xf 3
  clear hb xf
  refine ⟨_, rfl, ?_⟩
  refine hK.out _ _ ⟨(c4 HX3.out).1, (c4 HX3.out).2.1, (c4 HX3.out).2.2.1, (c4 HX3.out).2.2.2.1⟩ (fun hHeld => ?_)
  clear hK K
  refine norm_ (a' := ?_) ?_ ?_
  rotate_left
  ·show Act.put _ (some 14) _ = _
   simp only [Act.put, yX, yY, yZ, i64_w, i32_w]
   rfl
  refine pure_ (i := 5) (N := some 2) (v := ?_) (a' := ?_) #[true, true, true, true, true, true, false] rfl rfl (by kernel_rfl) (fun _ _ _ h => h) (Or.inl ⟨by rfl, ?_⟩) ?_ ?_
  rotate_left
  ·intro w'
   go_simp
   with_reducible rfl
  rotate_left
  ·simp only [Act.put, yX, yY, yZ, i64_w, i32_w]
   rfl
  refine last_ (i := 6) (N := none) #[true, true, true, true, true, true, true] rfl rfl (by kernel_rfl) (by decide) (fun K hK => ?_)
  refine skip_ (w1 := ?_) (by rfl) rfl ?_ ?_
  rotate_left
  ·go_simp
   rfl
  refine hK.out _ _ ?_
  clear hK K
  refine done_ (by kernel_rfl) ?_
  refine NoPanic.normal ?_
  go_wp2
  refine leaves_cons (f := 15) (args := #[.pointer (some ⟨W.heap.size, 0, none⟩)]) (by simp) (by simp [go_sem]) ?_
  refine (caught_idle W.heap.size _).mono ?_
  rintro e u' w'' ⟨rfl, rfl, rfl⟩
  have hp4 := put4 HX3.out (.int .i64 0) (.int .i64 0) (.int .i64 0) (.string ⟨#[]⟩)
  have hc4 := ch4 W.heap.size w3 (.int .i64 0) (.int .i64 0) (.int .i64 0) (.string ⟨#[]⟩)
  obtain ⟨b0, b1, b2, b3, _, _⟩ := c4 hp4
  show Leaves Tryd.prog _ _ _ [] FrameMode.returning _
  refine ⟨.tuple #[.string s.out, .agg #[.int .i64 0, .int .i64 0, .int .i64 0, .string ⟨#[]⟩]], by simp [results, Tryd.results10, go_sem, b0, b1, b2, b3], rfl, ?_⟩
  exact ((HB3.out.mono (S' := fun k => k = W.heap.size) (fun _ _ h => h.elim)).trans hc4).to_below (fun k hk e => by have : k = W.heap.size := e; omega)
end Go.Proofs.YtbpiahpkbapijaaDoor.J
end
