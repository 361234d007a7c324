/- Lemmas and walks for the claim; no condition beyond what each states. -/
import Derived.Test.YtgkodenllfpajaaDoorB5
section
namespace Go.Proofs.YtgkodenllfpajaaDoor.A
open Go.RowKit Go.Proofs.YtgkodenllfpajaaDoorW.PrintWords Go.Proofs.YtgkodenllfpajaaDoorW.PrintLast Go.Proofs.YtgkodenllfpajaaDoorW.PrintMore
set_option linter.unusedVariables false
set_option linter.unusedSimpArgs false
theorem bo_assoc {α β γ : Type} (x : Option (PR α)) (f : α → PS → Option (PR β)) (g : β → PS → Option (PR γ)) : Pm.bo (Pm.bo x f) g = Pm.bo x (fun a s => Pm.bo (f a s) g) := by
 unfold Pm.bo
 cases x with
 | none => rfl
 | some x => cases x <;> rfl
def PostR (t : TB) (X : PFix) (W : World) (vr0 vg0 : Value) (r : PR (List PRange × List ByteArray)) (e : Ending) (w' : World) : Prop :=
 match r with
 | .ok (a, s) => e = .returned (.tuple #[]) ∧ PAt t.b X w' s ∧ TI t W vr0 vg0 w' a.1 a.2
 | .error x => e = thrown x.1 x.2 ∧ Ch (SR t.b t.bm vr0 vg0) W w'
def reservedC (e : Int) (x : Option (PR (List PRange × List ByteArray))) : Option (PR (List PRange × List ByteArray)) := Pm.bo x fun r s => Pm.bo (some (Pm.sign e Pm.wSemi s)) fun _ s => some (.ok (r, s))
set_option maxHeartbeats 4000000 in
set_option maxRecDepth 100000 in
theorem reserved_calls (t : TB) (X : PFix) (k : Nat) (enum : Bool) (rows : List PRange) (gone : List ByteArray) (vr0 vg0 : Value) (s : PS) (r : PR (List PRange × List ByteArray)) (hr : Pm.reserved k X.e enum rows gone s = some r) (W : World) (h : PAt t.b X W s) (hT : TI t W vr0 vg0 W rows gone) :
  Calls Tryd.prog 49 #[.pointer (some ⟨t.b, 0, none⟩), .pointer (some ⟨t.bm, t.i, none⟩), .pointer (some ⟨t.bm, t.j, none⟩), .bool enum] W (PostR t X W vr0 vg0 r) := by
 obtain ⟨base, b, bm, i, j, T, cs, L0⟩ := t
 dsimp only at h ⊢
 have HP := Aside0.mk h
 have HT := Aside0.mk hT
 have HC := Aside0.mk (Ch.refl (· = b) W)
 have HG := Aside0.mk True.intro
 unfold Pm.reserved at hr
 dsimp only at hr
 have HR := Aside0.mk hr
 clear h hT hr
 have hf := fld0
 go_enter Tryd.func49, Tryd.ntmps49
 go_wp2_with fail
 refine (next_calls b X s _ HP.out.fr).mono ?_; rintro e w1 ⟨rfl, hP, hC⟩; have n0_ := Aside0.mk hP; have n1_ := Aside0.mk (Ch.trans HC.out.fr hC); clear HP HC hP hC; have HP := n0_; have HC := n1_; clear n0_ n1_
 go_wp2_with fail
 refine (now_calls b X (Pm.nxt s) _ HP.out.fr).mono ?_; rintro e w1 ⟨rfl, hb⟩; have n0_ := Aside0.mk (PAt.below HP.out.fr hb); have n1_ := Aside0.mk (Ch.then_below HC.out.fr hb); clear HP HC hb; have HP := n0_; have HC := n1_; clear n0_ n1_
 cases c : ((Pm.now X.e (Pm.nxt s)).f0 == 3) with
 | true =>
  have hr2 := HR.out
  rw [c] at hr2
  clear HR
  have HR := Aside0.mk hr2
  clear hr2
  go_wp2
  clear c
  have HT2 := Aside0.mk (TI.chb HT.out HC.out)
  clear HT HC
  go_loopg [9] k (fun kq v9_ w' => ∃ (rows' : List PRange) (gone' : List ByteArray) (s' : PS), Aside0 (reservedC X.e (Pm.reservedL X.e true enum kq rows' gone' s') = some r) ∧ Aside0 (kq ≤ k) ∧ Aside0 (PAt b X w' s') ∧ Aside0 (TI ⟨base, b, bm, i, j, T, cs, L0⟩ W vr0 vg0 w' rows' gone'))
  case atStart => exact ⟨_, _, _, HR, ⟨Nat.le_refl _⟩, HP, HT2⟩
  case round =>
   clear HR HP HT2
   obtain ⟨rows', gone', s', HR, HK1, HP, HT⟩ := hrel
   have HC := Aside0.mk (Ch.refl (· = b) wr)
   cases gk with
   | zero => exact absurd HR.out (by simp [Pm.reservedL, reservedC, Pm.bo])
   | succ k1 =>
    have hr2 := HR.out
    clear HR
    simp only [Pm.reservedL, if_true] at hr2
    unfold reservedC at hr2
    rw [bo_assoc] at hr2
    have HR := Aside0.mk hr2
    clear hr2
    go_wp2_with fail
    rcases bo_cases HR.out with ⟨y, hy, hr2⟩ | ⟨tx, s1, hy, hr2⟩; (clear HR; subst hr2; refine (text_calls b X k1 78 (Pm.mayWord k1) (fun _ _ => rfl) ⟨fun t m W h => mayWord_calls k1 t m W h⟩ s' _ hy _ HP.out.fr).mono ?_; rintro e w1 ⟨rfl, hC⟩; exact ⟨rfl, rfl, HT.out.c.trans (((Ch.trans HC.out.fr hC)).mono (fun _ _ h => .inl h))⟩); ((try dsimp only at hr2); clear HR; have HR := Aside0.mk hr2; clear hr2; refine (text_calls b X k1 78 (Pm.mayWord k1) (fun _ _ => rfl) ⟨fun t m W h => mayWord_calls k1 t m W h⟩ s' _ hy _ HP.out.fr).mono ?_; rintro e w1 ⟨rfl, hP, hC⟩; have n0_ := Aside0.mk hP; have n1_ := Aside0.mk (Ch.trans HC.out.fr hC); clear hP hC hy; (try clear HP); clear HC; have HP := n0_; have HC := n1_; clear n0_ n1_)
    have hr3 := HR.out; rw [bo_assoc] at hr3; clear HR; have HR := Aside0.mk hr3; clear hr3
    go_wp2_with fail
    rcases bo_cases HR.out with ⟨y, hy, hr2⟩ | ⟨⟨⟩, s2, hy, hr2⟩; (clear HR; subst hr2; refine (counts_calls b X s1 _ HP.out.fr).mono ?_; rintro e w1 hU; rw [(Option.some.inj hy : Pm.counts X.e s1 = _)] at hU; obtain ⟨rfl, hC⟩ := hU; exact ⟨rfl, rfl, HT.out.c.trans (((Ch.trans HC.out.fr hC)).mono (fun _ _ h => .inl h))⟩); ((try dsimp only at hr2); clear HR; have HR := Aside0.mk hr2; clear hr2; refine (counts_calls b X s1 _ HP.out.fr).mono ?_; rintro e w1 hU; rw [(Option.some.inj hy : Pm.counts X.e s1 = _)] at hU; obtain ⟨rfl, hP, hC⟩ := hU; have n0_ := Aside0.mk hP; have n1_ := Aside0.mk (Ch.trans HC.out.fr hC); clear hP hC hy; (try clear HP); clear HC; have HP := n0_; have HC := n1_; clear n0_ n1_)
    go_wp2_with fail
    refine (next_calls b X s2 _ HP.out.fr).mono ?_; rintro e w1 ⟨rfl, hP, hC⟩; have n0_ := Aside0.mk hP; have n1_ := Aside0.mk (Ch.trans HC.out.fr hC); clear HP HC hP hC; have HP := n0_; have HC := n1_; clear n0_ n1_
    by_cases cl : gone'.length < 1099511627776
    ·have hr3 := HR.out; rw [if_pos cl] at hr3; clear HR; have HR := Aside0.mk hr3; clear hr3
     have HL := Aside0.mk cl
     clear cl
     obtain ⟨v1, L, h1, hr1, hf1, hbs1, hn1⟩ := TI.gon (TI.chb HT.out HC.out)
     have q1 : w1.cell? ⟨bm, j, none⟩ = some v1 := h1.1; have g1 : w1.frozen? ⟨bm, j, none⟩ = false := h1.2.1 j; have l1 : bm < w1.heap.size := h1.2.2
     have HR1 := Aside0.mk hr1; have HF1 := Aside0.mk hf1; have HS1 := Aside0.mk hbs1; have HN1 := Aside0.mk hn1
     clear h1 hr1 hf1 hbs1 hn1
     go_wp2_with (((with_reducible refine gate_builtin (b := .append) (xs := #[.tmp 26, .tmp 28]) rfl ?_); at_builtin; refine Kd.R_append Kd.string (w0 := w1) base rfl (.tmp 26) (.tmp 28) 22 9 (.string ⟨#[]⟩) 16 rfl Tryd.underlying22 info_str rfl (by decide) (by omega) v1 gone' tx [.string tx] (okL bm b L) (fun _ => False) rfl rfl rfl (fun _ hk => hk.elim) HF1.out HR1.out (Below.refl _ _) HS1.out (by have := HL.out; omega) ?_; intro v9 w9 ho hb hg hat; obtain ⟨A9, n9, c9, rfl⟩ := R_slice3 ho; obtain ⟨h9, hm9, hc9⟩ := HN1.out _ _ _ ho hg hat; have HT9 := Aside0.mk hm9; have HC9 := Aside0.mk hc9; have q9 : w9.cell? ⟨bm, j, none⟩ = some v1 := h9.1; have g9 : w9.frozen? ⟨bm, j, none⟩ = false := h9.2.1 j; clear ho hb hg hat h9 hm9 hc9))
     have hbm := HT.out.lt
     have HP2 := Aside0.mk (PAt.far HP.out.fr HC9.out hbm.2.2)
     clear hbm HP HT HC
     have HP := HP2
     have HT := HT9
     have HC := Aside0.mk (Ch.refl (· = b) (w9.setCell ⟨bm, j, none⟩ (.slice A9 n9 c9)))
     clear HP2 HT9 q1 g1 l1 q9 g9 HR1 HF1 HS1 HN1 HC9
     cases g : Pm.is X.e 4 Pm.wComma (Pm.nxt s2) with
     | true =>
      have hr3 := HR.out; rw [if_pos g] at hr3; clear HR; have HR := Aside0.mk hr3; clear hr3
      have HGr := Aside0.mk g
      clear g
      refine (is_calls b X 4 Pm.wComma (Pm.nxt s2) _ HP.out.fr).mono ?_; rintro e w1 ⟨rfl, hb⟩; rw [HGr.out]; have n0_ := Aside0.mk (PAt.below HP.out.fr hb); have n1_ := Aside0.mk (Ch.then_below HC.out.fr hb); clear HP HC hb; have HP := n0_; have HC := n1_; clear n0_ n1_
      go_wp2_with fail
      refine (next_calls b X (Pm.nxt s2) _ HP.out.fr).mono ?_; rintro e w1 ⟨rfl, hP, hC⟩; have n0_ := Aside0.mk hP; have n1_ := Aside0.mk (Ch.trans HC.out.fr hC); clear HP HC hP hC; have HP := n0_; have HC := n1_; clear n0_ n1_
      have HT2 := Aside0.mk (TI.chb HT.out HC.out)
      clear HT HC
      go_wp2
      go_roundg k1
      case measure => have := HK1.out; omega
      case rel => exact ⟨_, _, _, ⟨HR.out⟩, ⟨by have := HK1.out; omega⟩, HP, HT2⟩
     | false =>
      have hr3 := HR.out; rw [if_neg (by rw [g]; exact Bool.false_ne_true)] at hr3; clear HR; have HR := Aside0.mk hr3; clear hr3
      have HGr := Aside0.mk g
      clear g
      have hr4 := (show Pm.bo (some (Pm.sign X.e Pm.wSemi (Pm.nxt s2))) _ = some r from HR.out)
      clear HR
      have HR := Aside0.mk hr4
      clear hr4
      refine (is_calls b X 4 Pm.wComma (Pm.nxt s2) _ HP.out.fr).mono ?_; rintro e w1 ⟨rfl, hb⟩; rw [HGr.out]; have n0_ := Aside0.mk (PAt.below HP.out.fr hb); have n1_ := Aside0.mk (Ch.then_below HC.out.fr hb); clear HP HC hb; have HP := n0_; have HC := n1_; clear n0_ n1_
      go_wp2_with fail
      rcases bo_cases HR.out with ⟨y, hy, hr2⟩ | ⟨⟨⟩, s4, hy, hr2⟩; (clear HR; subst hr2; refine (sign_calls b X Pm.wSemi (Pm.nxt s2) _ HP.out.fr).mono ?_; rintro e w1 hU; rw [(Option.some.inj hy : Pm.sign X.e Pm.wSemi (Pm.nxt s2) = _)] at hU; obtain ⟨rfl, hC⟩ := hU; exact ⟨rfl, rfl, HT.out.c.trans (((Ch.trans HC.out.fr hC)).mono (fun _ _ h => .inl h))⟩); ((try dsimp only at hr2); clear HR; have HR := Aside0.mk hr2; clear hr2; refine (sign_calls b X Pm.wSemi (Pm.nxt s2) _ HP.out.fr).mono ?_; rintro e w1 hU; rw [(Option.some.inj hy : Pm.sign X.e Pm.wSemi (Pm.nxt s2) = _)] at hU; obtain ⟨rfl, hP, hC⟩ := hU; have n0_ := Aside0.mk hP; have n1_ := Aside0.mk (Ch.trans HC.out.fr hC); clear hP hC hy; (try clear HP); clear HC; have HP := n0_; have HC := n1_; clear n0_ n1_)
      obtain rfl := Option.some.inj HR.out
      clear HR
      go_wp2
      go_end0
      exact ⟨rfl, HP.out, TI.chb HT.out HC.out⟩
    ·exact absurd HR.out (by rw [if_neg cl]; simp [Pm.bo])
 | false =>
  have hr2 := HR.out
  rw [c] at hr2
  clear HR
  have HR := Aside0.mk hr2
  clear hr2
  go_wp2
  clear c
  have HT2 := Aside0.mk (TI.chb HT.out HC.out)
  clear HT HC
  go_loopg [9] k (fun kq v9_ w' => ∃ (rows' : List PRange) (gone' : List ByteArray) (s' : PS), Aside0 (reservedC X.e (Pm.reservedL X.e false enum kq rows' gone' s') = some r) ∧ Aside0 (kq ≤ k) ∧ Aside0 (PAt b X w' s') ∧ Aside0 (TI ⟨base, b, bm, i, j, T, cs, L0⟩ W vr0 vg0 w' rows' gone'))
  case atStart => exact ⟨_, _, _, HR, ⟨Nat.le_refl _⟩, HP, HT2⟩
  case round =>
   clear HR HP HT2
   obtain ⟨rows', gone', s', HR, HK1, HP, HT⟩ := hrel
   have HC := Aside0.mk (Ch.refl (· = b) wr)
   cases gk with
   | zero => exact absurd HR.out (by simp [Pm.reservedL, reservedC, Pm.bo])
   | succ k1 =>
    have hr2 := HR.out
    clear HR
    simp only [Pm.reservedL, Bool.false_eq_true, if_false] at hr2
    unfold reservedC at hr2
    rw [bo_assoc] at hr2
    have HR := Aside0.mk hr2
    clear hr2
    obtain ⟨v0, L, h1, hr1, hf1, hbs1, hn1⟩ := TI.row HT.out
    have q0 : wr.cell? ⟨bm, i, none⟩ = some v0 := h1.1; have g0 : wr.frozen? ⟨bm, i, none⟩ = false := h1.2.1 i; have l0 : bm < wr.heap.size := h1.2.2
    have HQ0 := Aside0.mk q0
    have HL0 := Aside0.mk l0
    clear h1 hr1 hf1 hbs1 hn1
    go_wp2
    go_region_law (first | (refine Kd.R_append_step k116 (w0 := w1) (W := w1) base rfl (.tmp 34) (.tmp 38) 46 116 (.agg #[(.int .i64 0), (.int .i64 0)]) 16 rfl Tryd.underlying46 info_rng rfl (by decide) (by decide) v1 rows' a [.int .i64 a.f0, .int .i64 a.f1] (okL bm b L2) (fun _ => False) (by simp [Act.eval, Act.put]) (by simp [Act.eval, Act.put]) (k116_mkM _ _ _ a) (fun _ hk => hk.elim) HF1.out HR1.out (Below.refl _ _) HS1.out (by have := HL.out; omega) ?_; intro v9 w9 ho hb hg hat; obtain ⟨A9, n9, c9, rfl⟩ := R_slice3 ho; obtain ⟨h9, hm9, hc9⟩ := HN1.out _ _ _ ho hg hat; have HT9 := Aside0.mk hm9; have HC9 := Aside0.mk hc9; have q9 : w9.cell? ⟨bm, i, none⟩ = some v1 := h9.1; have g9 : w9.frozen? ⟨bm, i, none⟩ = false := h9.2.1 i; clear ho hb hg hat h9 hm9 hc9) | (go_simp; go_at_call 79; rcases bo_cases HR.out with ⟨y, hy, hr2⟩ | ⟨a, s1, hy, hr2⟩; (clear HR; subst hr2; refine (row_calls b X k1 enum s' _ hy _ HP.out.fr).mono ?_; rintro e w1 ⟨rfl, hC⟩; exact ⟨rfl, rfl, HT.out.c.trans (((Ch.trans HC.out.fr hC)).mono (fun _ _ h => .inl h))⟩); ((try dsimp only at hr2); clear HR; have HR := Aside0.mk hr2; clear hr2; refine (row_calls b X k1 enum s' _ hy _ HP.out.fr).mono ?_; rintro e w1 ⟨rfl, hP, hC⟩; have n0_ := Aside0.mk hP; have n1_ := Aside0.mk (Ch.trans HC.out.fr hC); clear hP hC hy; (try clear HP); clear HC; have HP := n0_; have HC := n1_; clear n0_ n1_); have hl2 : rows'.length < 1099511627776 := Decidable.byContradiction (fun cl => absurd HR.out (by rw [if_neg cl]; simp [Pm.bo])); have hr3 := HR.out; rw [if_pos hl2] at hr3; clear HR; have HR := Aside0.mk hr3; have HL := Aside0.mk hl2; clear hr3 hl2; obtain ⟨v1, L2, h1, hr1, hf1, hbs1, hn1⟩ := TI.row (TI.chb HT.out HC.out); obtain rfl : v1 = v0 := Option.some.inj (h1.1.symm.trans ((HC.out.cell (fun e_ => by have := HT.out.lt; simp only at this; omega) HL0.out i).trans HQ0.out)); have q1 : w1.cell? ⟨bm, i, none⟩ = some v1 := h1.1; have g1 : w1.frozen? ⟨bm, i, none⟩ = false := h1.2.1 i; have l1 : bm < w1.heap.size := h1.2.2; have HR1 := Aside0.mk hr1; have HF1 := Aside0.mk hf1; have HS1 := Aside0.mk hbs1; have HN1 := Aside0.mk hn1; clear h1 hr1 hf1 hbs1 hn1))
    all_goals clear HQ0 HL0 q0 g0 l0 HL
    all_goals
     go_wp2_with fail
     have hbm := HT.out.lt
     have HP2 := Aside0.mk (PAt.far HP.out.fr HC9.out hbm.2.2)
     clear hbm HP HT HC
     have HP := HP2
     have HT := HT9
     have HC := Aside0.mk (Ch.refl (· = b) (w9.setCell ⟨bm, i, none⟩ (.slice A9 n9 c9)))
     clear HP2 HT9 q1 g1 l1 q9 g9 HR1 HF1 HS1 HN1 HC9
     cases g : Pm.is X.e 4 Pm.wComma s1 with
     | true =>
      have hr3 := HR.out; rw [if_pos g] at hr3; clear HR; have HR := Aside0.mk hr3; clear hr3
      have HGr := Aside0.mk g
      clear g
      refine (is_calls b X 4 Pm.wComma s1 _ HP.out.fr).mono ?_; rintro e w1 ⟨rfl, hb⟩; rw [HGr.out]; have n0_ := Aside0.mk (PAt.below HP.out.fr hb); have n1_ := Aside0.mk (Ch.then_below HC.out.fr hb); clear HP HC hb; have HP := n0_; have HC := n1_; clear n0_ n1_
      go_wp2_with fail
      refine (next_calls b X s1 _ HP.out.fr).mono ?_; rintro e w1 ⟨rfl, hP, hC⟩; have n0_ := Aside0.mk hP; have n1_ := Aside0.mk (Ch.trans HC.out.fr hC); clear HP HC hP hC; have HP := n0_; have HC := n1_; clear n0_ n1_
      have HT2 := Aside0.mk (TI.chb HT.out HC.out)
      clear HT HC
      go_wp2
      go_roundg k1
      case measure => have := HK1.out; omega
      case rel => exact ⟨_, _, _, ⟨HR.out⟩, ⟨by have := HK1.out; omega⟩, HP, HT2⟩
     | false =>
      have hr3 := HR.out; rw [if_neg (by rw [g]; exact Bool.false_ne_true)] at hr3; clear HR; have HR := Aside0.mk hr3; clear hr3
      have HGr := Aside0.mk g
      clear g
      have hr4 := (show Pm.bo (some (Pm.sign X.e Pm.wSemi s1)) _ = some r from HR.out)
      clear HR
      have HR := Aside0.mk hr4
      clear hr4
      refine (is_calls b X 4 Pm.wComma s1 _ HP.out.fr).mono ?_; rintro e w1 ⟨rfl, hb⟩; rw [HGr.out]; have n0_ := Aside0.mk (PAt.below HP.out.fr hb); have n1_ := Aside0.mk (Ch.then_below HC.out.fr hb); clear HP HC hb; have HP := n0_; have HC := n1_; clear n0_ n1_
      go_wp2_with fail
      rcases bo_cases HR.out with ⟨y, hy, hr2⟩ | ⟨⟨⟩, s4, hy, hr2⟩; (clear HR; subst hr2; refine (sign_calls b X Pm.wSemi s1 _ HP.out.fr).mono ?_; rintro e w1 hU; rw [(Option.some.inj hy : Pm.sign X.e Pm.wSemi s1 = _)] at hU; obtain ⟨rfl, hC⟩ := hU; exact ⟨rfl, rfl, HT.out.c.trans (((Ch.trans HC.out.fr hC)).mono (fun _ _ h => .inl h))⟩); ((try dsimp only at hr2); clear HR; have HR := Aside0.mk hr2; clear hr2; refine (sign_calls b X Pm.wSemi s1 _ HP.out.fr).mono ?_; rintro e w1 hU; rw [(Option.some.inj hy : Pm.sign X.e Pm.wSemi s1 = _)] at hU; obtain ⟨rfl, hP, hC⟩ := hU; have n0_ := Aside0.mk hP; have n1_ := Aside0.mk (Ch.trans HC.out.fr hC); clear hP hC hy; (try clear HP); clear HC; have HP := n0_; have HC := n1_; clear n0_ n1_)
      obtain rfl := Option.some.inj HR.out
      clear HR
      go_wp2
      go_end0
      exact ⟨rfl, HP.out, TI.chb HT.out HC.out⟩
theorem MInv.sl1 {base b bm : Nat} {W : World} {m : PMsg} (h : MInv base b bm W m) : ∃ A c, W.cell? ⟨bm, 1, none⟩ = some (.slice A m.f1.length c) ∧ W.frozen? ⟨bm, 1, none⟩ = false ∧ bm < W.heap.size := by
 obtain ⟨v1, v2, v3, v4, v5, v6, h0, hb, r1, _⟩ := h
 obtain ⟨A, c, rfl⟩ := Kd.R_slice r1
 have g := pcell h0
 exact ⟨A, c, g.1 1 _ rfl, g.2.1 1, g.2.2⟩
theorem MInv.sl2 {base b bm : Nat} {W : World} {m : PMsg} (h : MInv base b bm W m) : ∃ A c, W.cell? ⟨bm, 2, none⟩ = some (.slice A m.f2.length c) ∧ W.frozen? ⟨bm, 2, none⟩ = false ∧ bm < W.heap.size := by
 obtain ⟨v1, v2, v3, v4, v5, v6, h0, hb, _, r2, _⟩ := h
 obtain ⟨A, c, rfl⟩ := Kd.R_slice r2
 have g := pcell h0
 exact ⟨A, c, g.1 2 _ rfl, g.2.1 2, g.2.2⟩
theorem bo_bind {α β γ : Type} (x : Option α) (f : α → Option (PR β)) (g : β → PS → Option (PR γ)) : Pm.bo (x.bind f) g = x.bind (fun a => Pm.bo (f a) g) := by cases x <;> rfl
theorem dec_cast (a c : Nat) : decide ((a : Int) > (c : Int)) = decide (c < a) := by rw [decide_eq_decide]; omega
def oneofC (e : Int) (m : PMsg) (n : ByteArray) (x : Option (PR (List PField))) : Option (PR PMsg) :=
 Pm.bo x fun l s => Pm.bo (some (Pm.unl e (decide ((l.length : Int) > (m.f1.length : Int))) s)) fun _ s => some (.ok ({ m with f1 := l, f2 := m.f2 ++ [n] }, Pm.nxt s))
set_option maxHeartbeats 4000000 in
set_option maxRecDepth 100000 in
theorem oneof_calls (base b bm : Nat) (X : PFix) (k : Nat) (m : PMsg) (s : PS) (r : PR PMsg) (hr : Pm.oneof k X.e m s = some r) (W : World) (h : PAt b X W s) (hM : MInv base b bm W m) :
  Calls Tryd.prog 47 #[.pointer (some ⟨b, 0, none⟩), .pointer (some ⟨bm, 0, none⟩)] W (PostM base b bm X W r) := by
 have HP := Aside0.mk h
 have HM := Aside0.mk hM
 have HC := Aside0.mk (Ch.refl (· = b) W)
 have HG := Aside0.mk True.intro
 unfold Pm.oneof at hr
 have HR := Aside0.mk hr
 clear h hM hr
 have hf := fld0
 go_enter Tryd.func47, Tryd.ntmps47
 go_wp2_with fail
 rcases bo_cases HR.out with ⟨y, hy, hr2⟩ | ⟨⟨⟩, s1, hy, hr2⟩; (clear HR; subst hr2; refine (counts_calls b X s _ HP.out.fr).mono ?_; rintro e w1 hU; rw [(Option.some.inj hy : Pm.counts X.e s = _)] at hU; obtain ⟨rfl, hC⟩ := hU; exact ⟨rfl, rfl, Ch.sm (Ch.trans HC.out.fr hC)⟩); ((try dsimp only at hr2); clear HR; have HR := Aside0.mk hr2; clear hr2; refine (counts_calls b X s _ HP.out.fr).mono ?_; rintro e w1 hU; rw [(Option.some.inj hy : Pm.counts X.e s = _)] at hU; obtain ⟨rfl, hP, hC⟩ := hU; have n0_ := Aside0.mk hP; have n1_ := Aside0.mk (Ch.trans HC.out.fr hC); clear hP hC hy; (try clear HP); clear HC; have HP := n0_; have HC := n1_; clear n0_ n1_)
 go_wp2_with fail
 refine (next_calls b X s1 _ HP.out.fr).mono ?_; rintro e w1 ⟨rfl, hP, hC⟩; have n0_ := Aside0.mk hP; have n1_ := Aside0.mk (Ch.trans HC.out.fr hC); clear HP HC hP hC; have HP := n0_; have HC := n1_; clear n0_ n1_
 go_wp2
 obtain ⟨v0, L, h1, hr1, hf1, hbs1, hlt1, hn1⟩ := MInv.app2 (MInv.b HM.out HC.out)
 have q0 : w1.cell? ⟨bm, 2, none⟩ = some v0 := h1.1
 have g0 : w1.frozen? ⟨bm, 2, none⟩ = false := h1.2.1 2
 have l0 : bm < w1.heap.size := h1.2.2
 have HQ0 := Aside0.mk q0
 have HL0 := Aside0.mk l0
 have HM2 := Aside0.mk (MInv.b HM.out HC.out)
 have HCs := Aside0.mk (Ch.sm HC.out : Ch (SM b base) W w1)
 clear HM HC
 have HM := HM2
 have HC := Aside0.mk (Ch.refl (· = b) w1)
 clear HM2
 clear h1 hr1 hf1 hbs1 hlt1 hn1
 go_region_law (first | (refine Kd.R_append_step Kd.string (w0 := w1) (W := w1) base rfl (.tmp 14) (.tmp 17) 22 9 (.string ⟨#[]⟩) 16 rfl Tryd.underlying22 info_str rfl (by decide) (by decide) v1 m.f2 n [.string n] (okL bm b L2) (fun _ => False) (by simp [Act.eval, Act.put]) (by simp [Act.eval, Act.put]) rfl (fun _ hk => hk.elim) HF1.out HR1.out (Below.refl _ _) HS1.out (by have := HL.out; omega) ?_; intro v9 w9 ho hb hg hat; obtain ⟨A9, n9, c9, rfl⟩ := R_slice3 ho; obtain ⟨h9, hm9, hc9⟩ := HN1.out _ _ _ ho hg hat; have HM9 := Aside0.mk hm9; have HC9 := Aside0.mk hc9; have q9 : w9.cell? ⟨bm, 2, none⟩ = some v1 := h9.1; have g9 : w9.frozen? ⟨bm, 2, none⟩ = false := h9.2.1 2; clear ho hb hg hat h9 hm9 hc9) | (go_simp; go_at_call 69; rcases bo_cases HR.out with ⟨y, hy, hr2⟩ | ⟨n, s2, hy, hr2⟩; (clear HR; subst hr2; refine (name_calls b X k (Pm.nxt s1) _ hy _ HP.out.fr).mono ?_; rintro e w1 ⟨rfl, hC⟩; exact ⟨rfl, rfl, HCs.out.trans (Ch.sm (Ch.trans HC.out.fr hC))⟩); ((try dsimp only at hr2); clear HR; have HR := Aside0.mk hr2; clear hr2; refine (name_calls b X k (Pm.nxt s1) _ hy _ HP.out.fr).mono ?_; rintro e w1 ⟨rfl, hP, hC⟩; have n0_ := Aside0.mk hP; have n1_ := Aside0.mk (Ch.trans HC.out.fr hC); clear hP hC hy; (try clear HP); clear HC; have HP := n0_; have HC := n1_; clear n0_ n1_); have hl2 : m.f2.length < 1099511627776 := Decidable.byContradiction (fun cl => absurd HR.out (by rw [if_neg cl]; simp)); have hr3 := HR.out; rw [if_pos hl2] at hr3; clear HR; have HR := Aside0.mk hr3; have HL := Aside0.mk hl2; clear hr3 hl2; obtain ⟨v1, L2, h1, hr1, hf1, hbs1, hlt1, hn1⟩ := MInv.app2 (MInv.b HM.out HC.out); have q1 : w1.cell? ⟨bm, 2, none⟩ = some v1 := h1.1; obtain rfl : v1 = v0 := Option.some.inj (q1.symm.trans ((HC.out.cell (fun e_ => by have := HM.out.lt; omega) HL0.out 2).trans HQ0.out)); have g1 : w1.frozen? ⟨bm, 2, none⟩ = false := h1.2.1 2; have l1 : bm < w1.heap.size := h1.2.2; have HR1 := Aside0.mk hr1; have HF1 := Aside0.mk hf1; have HS1 := Aside0.mk hbs1; have HN1 := Aside0.mk hn1; clear h1 hr1 hf1 hbs1 hlt1 hn1))
 all_goals
  go_wp2_with fail
  have hMl := HM.out.lt
  have HP2 := Aside0.mk (PAt.far HP.out.fr HC9.out hMl.2.2)
  have HCs2 := Aside0.mk (HCs.out.trans ((Ch.sm HC.out).trans HC9.out.far))
  clear hMl HP HM HC HCs HQ0 HL0 q0 g0 l0 q1 g1 l1 q9 g9 HR1 HF1 HS1 HN1 HC9 HL
  have HP := HP2
  have HM := HM9
  have HCs := HCs2
  have HC := Aside0.mk (Ch.refl (· = b) (w9.setCell ⟨bm, 2, none⟩ (.slice A9 n9 c9)))
  clear HP2 HM9 HCs2
  rcases bo_cases HR.out with ⟨y, hy, hr2⟩ | ⟨⟨⟩, s3, hy, hr2⟩; (clear HR; subst hr2; refine (sign_calls b X Pm.wLbrace s2 _ HP.out.fr).mono ?_; rintro e w1 hU; rw [(Option.some.inj hy : Pm.sign X.e Pm.wLbrace s2 = _)] at hU; obtain ⟨rfl, hC⟩ := hU; exact ⟨rfl, rfl, HCs.out.trans (Ch.sm (Ch.trans HC.out.fr hC))⟩); ((try dsimp only at hr2); clear HR; have HR := Aside0.mk hr2; clear hr2; refine (sign_calls b X Pm.wLbrace s2 _ HP.out.fr).mono ?_; rintro e w1 hU; rw [(Option.some.inj hy : Pm.sign X.e Pm.wLbrace s2 = _)] at hU; obtain ⟨rfl, hP, hC⟩ := hU; have n0_ := Aside0.mk hP; have n1_ := Aside0.mk (Ch.trans HC.out.fr hC); clear hP hC hy; (try clear HP); clear HC; have HP := n0_; have HC := n1_; clear n0_ n1_)
  obtain ⟨A1, c1, q1, g1, l1⟩ := MInv.sl1 (MInv.b HM.out HC.out)
  dsimp only at q1
  go_wp2
  clear q1 g1 l1
  have HM2 := Aside0.mk (MInv.b HM.out HC.out)
  have HCs2 := Aside0.mk (HCs.out.trans (Ch.sm HC.out))
  clear HM HC HCs
  go_loopg [5] k (fun kq v5_ w' => ∃ (l : List PField) (s' : PS), Aside0 (oneofC X.e m n (Pm.oneofL X.e ((m.f2.length : Int) + 1) kq l s') = some r) ∧ Aside0 (kq ≤ k) ∧ Aside0 (PAt b X w' s') ∧ Aside0 (MInv base b bm w' { m with f1 := l, f2 := m.f2 ++ [n] }) ∧ Aside0 (Ch (SM b base) W w'))
  case atStart => exact ⟨_, _, HR, ⟨Nat.le_refl _⟩, HP, HM2, HCs2⟩
  case round =>
   clear HR HP HM2 HCs2
   obtain ⟨l, s', HR, HK1, HP, HM, HCs⟩ := hrel
   have HC := Aside0.mk (Ch.refl (· = b) wr)
   cases gk with
   | zero => exact absurd HR.out (by simp [Pm.oneofL, oneofC, Pm.bo])
   | succ k1 =>
    have hr2 := HR.out
    clear HR
    simp only [Pm.oneofL] at hr2
    unfold oneofC at hr2
    have HR := Aside0.mk hr2
    clear hr2
    go_wp2_with fail
    cases g : Pm.is X.e 4 Pm.wRbrace s' with
    | true =>
     have hr3 := HR.out; rw [if_pos g] at hr3; clear HR; have HR := Aside0.mk hr3; clear hr3
     have HGr := Aside0.mk g
     clear g
     have hr4 := (show Pm.bo (some (Pm.unl X.e (decide ((l.length : Int) > (m.f1.length : Int))) s')) _ = some r from HR.out)
     clear HR
     have HR := Aside0.mk hr4
     clear hr4
     refine (is_calls b X 4 Pm.wRbrace s' _ HP.out.fr).mono ?_; rintro e w1 ⟨rfl, hb⟩; rw [HGr.out]; have n0_ := Aside0.mk (PAt.below HP.out.fr hb); have n1_ := Aside0.mk (Ch.then_below HC.out.fr hb); clear HP HC hb; have HP := n0_; have HC := n1_; clear n0_ n1_
     obtain ⟨A1, c1, q1, g1, l1⟩ := MInv.sl1 (MInv.b HM.out HC.out)
     dsimp only at q1
     go_wp2_with fail
     have hr3 := HR.out; rw [dec_cast] at hr3; clear HR; have HR := Aside0.mk hr3; clear hr3
     rcases bo_cases HR.out with ⟨y, hy, hr2⟩ | ⟨⟨⟩, s4, hy, hr2⟩; (clear HR; subst hr2; refine (unless_calls b X (decide (m.f1.length < l.length)) s' _ HP.out.fr).mono ?_; rintro e w1 hU; rw [(Option.some.inj hy : Pm.unl X.e (decide (m.f1.length < l.length)) s' = _)] at hU; obtain ⟨rfl, hC⟩ := hU; exact ⟨rfl, rfl, HCs.out.trans (Ch.sm (Ch.trans HC.out.fr hC))⟩); ((try dsimp only at hr2); clear HR; have HR := Aside0.mk hr2; clear hr2; refine (unless_calls b X (decide (m.f1.length < l.length)) s' _ HP.out.fr).mono ?_; rintro e w1 hU; rw [(Option.some.inj hy : Pm.unl X.e (decide (m.f1.length < l.length)) s' = _)] at hU; obtain ⟨rfl, hP, hC⟩ := hU; have n0_ := Aside0.mk hP; have n1_ := Aside0.mk (Ch.trans HC.out.fr hC); clear hP hC hy; (try clear HP); clear HC; have HP := n0_; have HC := n1_; clear n0_ n1_)
     go_wp2_with fail
     refine (next_calls b X s4 _ HP.out.fr).mono ?_; rintro e w1 ⟨rfl, hP, hC⟩; have n0_ := Aside0.mk hP; have n1_ := Aside0.mk (Ch.trans HC.out.fr hC); clear HP HC hP hC; have HP := n0_; have HC := n1_; clear n0_ n1_
     obtain rfl := Option.some.inj HR.out
     clear HR q1 g1 l1
     go_wp2
     go_end0
     exact ⟨rfl, HP.out, MInv.b HM.out HC.out, HCs.out.trans (Ch.sm HC.out)⟩
    | false =>
     have hr3 := HR.out; rw [if_neg (by rw [g]; exact Bool.false_ne_true)] at hr3; clear HR; have HR := Aside0.mk hr3; clear hr3
     have HGr := Aside0.mk g
     clear g
     refine (is_calls b X 4 Pm.wRbrace s' _ HP.out.fr).mono ?_; rintro e w1 ⟨rfl, hb⟩; rw [HGr.out]; have n0_ := Aside0.mk (PAt.below HP.out.fr hb); have n1_ := Aside0.mk (Ch.then_below HC.out.fr hb); clear HP HC hb; have HP := n0_; have HC := n1_; clear n0_ n1_
     go_wp2_with fail
     cases g : Pm.is X.e 4 Pm.wSemi s' with
     | true =>
      have hr3 := HR.out; rw [if_pos g] at hr3; clear HR; have HR := Aside0.mk hr3; clear hr3
      have HGr := Aside0.mk g
      clear g
      refine (is_calls b X 4 Pm.wSemi s' _ HP.out.fr).mono ?_; rintro e w1 ⟨rfl, hb⟩; rw [HGr.out]; have n0_ := Aside0.mk (PAt.below HP.out.fr hb); have n1_ := Aside0.mk (Ch.then_below HC.out.fr hb); clear HP HC hb; have HP := n0_; have HC := n1_; clear n0_ n1_
      go_wp2_with fail
      refine (next_calls b X s' _ HP.out.fr).mono ?_; rintro e w1 ⟨rfl, hP, hC⟩; have n0_ := Aside0.mk hP; have n1_ := Aside0.mk (Ch.trans HC.out.fr hC); clear HP HC hP hC; have HP := n0_; have HC := n1_; clear n0_ n1_
      have HM2 := Aside0.mk (MInv.b HM.out HC.out)
      have HCs2 := Aside0.mk (HCs.out.trans (Ch.sm HC.out))
      clear HM HC HCs
      go_wp2
      go_roundg k1
      case measure => have := HK1.out; omega
      case rel => exact ⟨_, _, ⟨HR.out⟩, ⟨by have := HK1.out; omega⟩, HP, HM2, HCs2⟩
     | false =>
      have hr3 := HR.out; rw [if_neg (by rw [g]; exact Bool.false_ne_true)] at hr3; clear HR; have HR := Aside0.mk hr3; clear hr3
      have HGr := Aside0.mk g
      clear g
      refine (is_calls b X 4 Pm.wSemi s' _ HP.out.fr).mono ?_; rintro e w1 ⟨rfl, hb⟩; rw [HGr.out]; have n0_ := Aside0.mk (PAt.below HP.out.fr hb); have n1_ := Aside0.mk (Ch.then_below HC.out.fr hb); clear HP HC hb; have HP := n0_; have HC := n1_; clear n0_ n1_
      go_wp2_with fail
      refine (now_calls b X s' _ HP.out.fr).mono ?_; rintro e w1 ⟨rfl, hb⟩; have n0_ := Aside0.mk (PAt.below HP.out.fr hb); have n1_ := Aside0.mk (Ch.then_below HC.out.fr hb); clear HP HC hb; have HP := n0_; have HC := n1_; clear n0_ n1_
      clear HG
      have HG := Aside0.mk (show b < w1.heap.size ∧ X.B ≤ b ∧ wr.heap.size ≤ w1.heap.size from ⟨HP.out.lt, HP.out.ge, HC.out.size⟩)
      have HX := Aside0.mk (blk_new w1 (.cells #[.int .i64 (Pm.now X.e s').f0, .int .i64 (Pm.now X.e s').f1, .string (Pm.now X.e s').f2] 42))
      have hr3 := HR.out
      rw [bo_bind] at hr3
      obtain ⟨bad, hbad, hr4⟩ := Option.bind_eq_some_iff.mp hr3
      have HBad := Aside0.mk hbad
      have HR4 := Aside0.mk hr4
      clear hr3 hbad hr4 HR
      obtain ⟨bx1, bxf, bx3⟩ := pcell HX.out; have x0 := bx1 0 _ rfl; have x2 := bx1 2 _ rfl; clear bx1 bxf
      by_cases kd : (Pm.now X.e s').f0 = 1
      ·have hbad := HBad.out
       rw [if_pos kd] at hbad
       clear HBad
       have HBad := Aside0.mk hbad
       have kb : ((Pm.now X.e s').f0 == 1) = true := beq_iff_eq.mpr kd
       clear hbad kd
       go_wp2_with fail
       refine (parse_barred.calls _ _ _ HBad.out).mono ?_; rintro e w9 ⟨rfl, ⟨nd, rfl⟩⟩
       cases bad with
       | true =>
        obtain rfl := Option.some.inj (show some (Pm.fail (α := PMsg) X.e 52 s') = some r from HR4.out)
        go_wp2_with fail
        refine (fail_calls b X 52 s' _ HP.out.fr).mono ?_; rintro e w1 ⟨rfl, hb⟩; exact ⟨rfl, rfl, HCs.out.trans (Ch.sm (Ch.then_below HC.out.fr hb))⟩
       | false =>
        have hr4 := HR4.out
        rw [if_neg Bool.false_ne_true, kb, Bool.true_or, bo_assoc] at hr4
        clear HR4
        have HR := Aside0.mk hr4
        clear hr4
        go_wp2_with fail
        rcases bo_cases HR.out with ⟨y, hy, hr2⟩ | ⟨⟨⟩, s5, hy, hr2⟩; (clear HR; subst hr2; refine (unless_calls b X true s' _ HP.out.fr).mono ?_; rintro e w1 hU; rw [(Option.some.inj hy : Pm.unl X.e true s' = _)] at hU; obtain ⟨rfl, hC⟩ := hU; exact ⟨rfl, rfl, HCs.out.trans (Ch.sm (Ch.trans HC.out.fr hC))⟩); ((try dsimp only at hr2); clear HR; have HR := Aside0.mk hr2; clear hr2; refine (unless_calls b X true s' _ HP.out.fr).mono ?_; rintro e w1 hU; rw [(Option.some.inj hy : Pm.unl X.e true s' = _)] at hU; obtain ⟨rfl, hP, hC⟩ := hU; have n0_ := Aside0.mk hP; have n1_ := Aside0.mk (Ch.trans HC.out.fr hC); clear hP hC hy; (try clear HP); clear HC; have HP := n0_; have HC := n1_; clear n0_ n1_)
        obtain ⟨A1, c1, q1, g1, l1⟩ := MInv.sl2 (MInv.b HM.out HC.out)
        simp only [List.length_append, List.length_cons, List.length_nil] at q1
        go_wp2_with fail
        clear q1 g1 l1
        have hr3 := HR.out; rw [bo_assoc] at hr3; clear HR; have HR := Aside0.mk hr3; clear hr3
        rcases bo_cases HR.out with ⟨y, hy, hr2⟩ | ⟨f', s6, hy, hr2⟩; (clear HR; subst hr2; refine (field_calls base b bm X k1 ({ Pm.zfield with f0 := 1, f5 := (m.f2.length : Int) + 1 } : PField) true { m with f1 := l, f2 := m.f2 ++ [n] } s5 _ hy (fun _ h => by cases h) _ HP.out.fr (MInv.b HM.out HC.out.fr)).mono ?_; rintro e w1 ⟨rfl, hC⟩; exact ⟨rfl, rfl, HCs.out.trans ((Ch.sm HC.out.fr).trans hC)⟩); ((try dsimp only at hr2); clear HR; have HR := Aside0.mk hr2; clear hr2; have hl2 : l.length < 1099511627776 := Decidable.byContradiction (fun cl => absurd HR.out (by rw [if_neg cl]; simp [Pm.bo])); have hr3 := HR.out; rw [if_pos hl2] at hr3; clear HR; have HR := Aside0.mk hr3; clear hr3; refine (field_calls base b bm X k1 ({ Pm.zfield with f0 := 1, f5 := (m.f2.length : Int) + 1 } : PField) true { m with f1 := l, f2 := m.f2 ++ [n] } s5 _ hy (fun _ _ => hl2) _ HP.out.fr (MInv.b HM.out HC.out.fr)).mono ?_; clear hl2; rintro e w1 ⟨rfl, hP, hM, hC⟩; have n0_ := Aside0.mk hP; have n1_ := Aside0.mk (HCs.out.trans ((Ch.sm HC.out.fr).trans hC)); have n2_ := Aside0.mk hM; clear hP hC hM hy HP HC HM HCs; have HP := n0_; have HCs := n1_; have HM := n2_; clear n0_ n1_ n2_; have HC := Aside0.mk (Ch.refl (· = b) w1))
        clear HG HX HC
        have HG := Aside0.mk True.intro
        go_wp2
        go_roundg k1
        case measure => have := HK1.out; omega
        case rel => exact ⟨_, _, ⟨HR.out⟩, ⟨by have := HK1.out; omega⟩, HP, HM, HCs⟩
      ·have hbad := HBad.out
       rw [if_neg kd] at hbad
       obtain rfl := Option.some.inj hbad
       clear HBad
       have kb : ((Pm.now X.e s').f0 == 1) = false := beq_eq_false_iff_ne.mpr kd
       clear hbad kd
       have hr4 := HR4.out
       rw [if_neg Bool.false_ne_true, kb, Bool.false_or, bo_assoc] at hr4
       clear HR4
       have HR := Aside0.mk hr4
       clear hr4
       go_wp2_with fail
       refine (is_calls b X 4 Pm.dot s' _ HP.out.fr).mono ?_; rintro e w1 ⟨rfl, hb⟩; have n0_ := Aside0.mk (PAt.below HP.out.fr hb); have n1_ := Aside0.mk (Ch.then_below HC.out.fr hb); clear HP HC hb; have HP := n0_; have HC := n1_; clear n0_ n1_
       go_wp2_with fail
       rcases bo_cases HR.out with ⟨y, hy, hr2⟩ | ⟨⟨⟩, s5, hy, hr2⟩; (clear HR; subst hr2; refine (unless_calls b X (Pm.is X.e 4 Pm.dot s') s' _ HP.out.fr).mono ?_; rintro e w1 hU; rw [(Option.some.inj hy : Pm.unl X.e (Pm.is X.e 4 Pm.dot s') s' = _)] at hU; obtain ⟨rfl, hC⟩ := hU; exact ⟨rfl, rfl, HCs.out.trans (Ch.sm (Ch.trans HC.out.fr hC))⟩); ((try dsimp only at hr2); clear HR; have HR := Aside0.mk hr2; clear hr2; refine (unless_calls b X (Pm.is X.e 4 Pm.dot s') s' _ HP.out.fr).mono ?_; rintro e w1 hU; rw [(Option.some.inj hy : Pm.unl X.e (Pm.is X.e 4 Pm.dot s') s' = _)] at hU; obtain ⟨rfl, hP, hC⟩ := hU; have n0_ := Aside0.mk hP; have n1_ := Aside0.mk (Ch.trans HC.out.fr hC); clear hP hC hy; (try clear HP); clear HC; have HP := n0_; have HC := n1_; clear n0_ n1_)
       obtain ⟨A1, c1, q1, g1, l1⟩ := MInv.sl2 (MInv.b HM.out HC.out)
       simp only [List.length_append, List.length_cons, List.length_nil] at q1
       go_wp2_with fail
       clear q1 g1 l1
       have hr3 := HR.out; rw [bo_assoc] at hr3; clear HR; have HR := Aside0.mk hr3; clear hr3
       rcases bo_cases HR.out with ⟨y, hy, hr2⟩ | ⟨f', s6, hy, hr2⟩; (clear HR; subst hr2; refine (field_calls base b bm X k1 ({ Pm.zfield with f0 := 1, f5 := (m.f2.length : Int) + 1 } : PField) true { m with f1 := l, f2 := m.f2 ++ [n] } s5 _ hy (fun _ h => by cases h) _ HP.out.fr (MInv.b HM.out HC.out.fr)).mono ?_; rintro e w1 ⟨rfl, hC⟩; exact ⟨rfl, rfl, HCs.out.trans ((Ch.sm HC.out.fr).trans hC)⟩); ((try dsimp only at hr2); clear HR; have HR := Aside0.mk hr2; clear hr2; have hl2 : l.length < 1099511627776 := Decidable.byContradiction (fun cl => absurd HR.out (by rw [if_neg cl]; simp [Pm.bo])); have hr3 := HR.out; rw [if_pos hl2] at hr3; clear HR; have HR := Aside0.mk hr3; clear hr3; refine (field_calls base b bm X k1 ({ Pm.zfield with f0 := 1, f5 := (m.f2.length : Int) + 1 } : PField) true { m with f1 := l, f2 := m.f2 ++ [n] } s5 _ hy (fun _ _ => hl2) _ HP.out.fr (MInv.b HM.out HC.out.fr)).mono ?_; clear hl2; rintro e w1 ⟨rfl, hP, hM, hC⟩; have n0_ := Aside0.mk hP; have n1_ := Aside0.mk (HCs.out.trans ((Ch.sm HC.out.fr).trans hC)); have n2_ := Aside0.mk hM; clear hP hC hM hy HP HC HM HCs; have HP := n0_; have HCs := n1_; have HM := n2_; clear n0_ n1_ n2_; have HC := Aside0.mk (Ch.refl (· = b) w1))
       clear HG HX HC
       have HG := Aside0.mk True.intro
       go_wp2
       go_roundg k1
       case measure => have := HK1.out; omega
       case rel => exact ⟨_, _, ⟨HR.out⟩, ⟨by have := HK1.out; omega⟩, HP, HM, HCs⟩
def tabE : Array Value := #[.string ⟨#[114, 101, 115, 101, 114, 118, 101, 100]⟩, .func (.func 51) #[] #[], .string ⟨#[111, 112, 116, 105, 111, 110]⟩, Value.nilFunc]
def wordsE : List (List UInt8) := [[114, 101, 115, 101, 114, 118, 101, 100], [111, 112, 116, 105, 111, 110]]
set_option maxHeartbeats 4000000 in
set_option maxRecDepth 100000 in
theorem startedE_calls (b g : Nat) (X : PFix) (s : PS) (pin : Value) (Q : Ending → World → Prop) (W : World) (h : PAt b X W s) (hg : W.heap[g]? = some (.cells tabE 98 (0, 0))) (hgb : g ≠ b)
  (hmiss : (∀ w ∈ wordsE, w ≠ (Pm.now X.e s).f2.toList) → ∀ w', PAt b X w' s → Ch (· = b) W w' → Q (.returned (.bool false)) w')
  (h0 : (Pm.now X.e s).f2.toList = ([114, 101, 115, 101, 114, 118, 101, 100] : List UInt8) → ∀ w, PAt b X w s → Ch (· = b) W w → Calls Tryd.prog 51 #[.pointer (some ⟨b, 0, none⟩), pin] w (fun e w' => (e = .returned (.tuple #[]) ∧ Q (.returned (.bool true)) w') ∨ (∃ v, e = .panicked v ∧ Q e w')))
  (hnil : (Pm.now X.e s).f2.toList = ([111, 112, 116, 105, 111, 110] : List UInt8) → ∀ w', Ch (· = b) W w' → Q (thrown 52 (Pm.now X.e s).f1) w') :
  Calls Tryd.prog 71 #[.pointer (some ⟨b, 0, none⟩), .slice (some ⟨g, 0, none⟩) 2 2, pin] W Q := by
 have HP := Aside0.mk h
 have HC := Aside0.mk (Ch.refl (· = b) W)
 have HG := Aside0.mk True.intro
 have HT := Aside0.mk hg
 have HB := Aside0.mk hgb
 have HMiss := Aside0.mk hmiss
 have HNil := Aside0.mk hnil
 have H0 := Aside0.mk h0
 clear h hg hgb hmiss hnil h0
 have hf := fld2
 have hq1 : ∀ (f : Fn) (w : World), (binOp .eql 96 (.func f #[] #[]) .nilFunc).run Tryd.prog w = .ok (.bool false) w := fun f w => by kernel_rfl
 have hq2 : ∀ (w : World), (binOp .eql 96 .nilFunc .nilFunc).run Tryd.prog w = .ok (.bool true) w := fun w => by kernel_rfl
 go_enter Tryd.func71, Tryd.ntmps71
 go_wp2
 go_loopg [11] 2 (fun kq v11 w' => ∃ i : Nat, v11 = .int .i64 (i : Int) ∧ Aside0 (kq + i = 2) ∧ Aside0 (∀ j, j < i → wordsE[j]? ≠ some (Pm.now X.e s).f2.toList) ∧ Aside0 (PAt b X w' s) ∧ Aside0 (Ch (· = b) W w'))
 case atStart => exact ⟨0, rfl, ⟨rfl⟩, ⟨fun j hj => absurd hj (Nat.not_lt_zero _)⟩, HP, HC⟩
 case round =>
  clear HP HC
  obtain ⟨i, rfl, HK1, HW, HP, HC⟩ := hrel
  have hi : i = 0 ∨ i = 1 ∨ i = 2 := by have := HK1.out; omega
  have HTw := Aside0.mk ((HC.out.block g (Array.getElem?_eq_some_iff.1 HT.out).1 HB.out).trans HT.out)
  rcases hi with rfl | rfl | rfl
  ·obtain ⟨gx1, gxf, gx3⟩ := pcell HTw.out
   have x0 : wr.cell? ⟨g, 0, none⟩ = some (.string ⟨#[114, 101, 115, 101, 114, 118, 101, 100]⟩) := gx1 0 _ rfl
   have x1 : wr.cell? ⟨g, 1, none⟩ = some (.func (.func 51) #[] #[]) := gx1 1 _ rfl
   clear gx1 gxf
   have HGb := Aside0.mk (show b < wr.heap.size ∧ X.B ≤ b ∧ W.heap.size ≤ wr.heap.size from ⟨HP.out.lt, HP.out.ge, HC.out.size⟩)
   clear HG
   have HG := HGb
   by_cases c : (Pm.now X.e s).f2.toList = ([114, 101, 115, 101, 114, 118, 101, 100] : List UInt8)
   ·have cb : (([114, 101, 115, 101, 114, 118, 101, 100] : List UInt8) == (Pm.now X.e s).f2.toList) = true := beq_iff_eq.mpr c.symm
    have cc := Aside0.mk c
    clear c
    have HX := Aside0.mk (blk_new wr (.cells #[.string ⟨#[114, 101, 115, 101, 114, 118, 101, 100]⟩, .func (.func 51) #[] #[]] 98))
    go_wp2
    go_region_law ((go_simp; go_at_call 58; refine (now_calls b X s _ HP.out.fr).mono ?_; rintro e w1 ⟨rfl, hb⟩; have n0_ := Aside0.mk (PAt.below HP.out.fr hb); have n1_ := Aside0.mk (Ch.then_below HC.out.fr hb); have nx_ := Aside0.mk ((hb.block _ (pcell (bx_dr HX.out)).2.2).trans (bx_dr HX.out)); clear HP HC hb; have HP := n0_; have HC := n1_; clear n0_ n1_; (try clear HX); have HX := nx_; clear nx_; obtain ⟨bx1, bxf, bx3⟩ := pcell HX.out; have y0 : w1.cell? ⟨wr.heap.size, 0, none⟩ = some (.string ⟨#[114, 101, 115, 101, 114, 118, 101, 100]⟩) := bx1 0 _ rfl; have y1 : w1.cell? ⟨wr.heap.size, 1, none⟩ = some (.func (.func 51) #[] #[]) := bx1 1 _ rfl; clear bx1 bxf))
    all_goals
     go_wp2_with fail
     refine (H0.out cc.out _ HP.out.fr HC.out.fr).mono ?_
     rintro e w2 (⟨rfl, hq⟩ | ⟨v, rfl, hq⟩)
     ·have HQ := Aside0.mk hq
      clear hq
      go_wp2
      exact HQ.out
     ·exact ⟨rfl, hq⟩
   ·have cb : (([114, 101, 115, 101, 114, 118, 101, 100] : List UInt8) == (Pm.now X.e s).f2.toList) = false := beq_eq_false_iff_ne.mpr (fun e => c e.symm)
    have cc := Aside0.mk c
    clear c
    have HX := Aside0.mk (blk_new wr (.cells #[.string ⟨#[114, 101, 115, 101, 114, 118, 101, 100]⟩, .func (.func 51) #[] #[]] 98))
    obtain rfl : gk = 2 := by have := HK1.out; omega
    go_wp2
    go_region_law ((go_simp; go_at_call 58; refine (now_calls b X s _ HP.out.fr).mono ?_; rintro e w1 ⟨rfl, hb⟩; have n0_ := Aside0.mk (PAt.below HP.out.fr hb); have n1_ := Aside0.mk (Ch.then_below HC.out.fr hb); have nx_ := Aside0.mk ((hb.block _ (pcell (bx_dr HX.out)).2.2).trans (bx_dr HX.out)); clear HP HC hb; have HP := n0_; have HC := n1_; clear n0_ n1_; (try clear HX); have HX := nx_; clear nx_; obtain ⟨bx1, bxf, bx3⟩ := pcell HX.out; have y0 : w1.cell? ⟨wr.heap.size, 0, none⟩ = some (.string ⟨#[114, 101, 115, 101, 114, 118, 101, 100]⟩) := bx1 0 _ rfl; have y1 : w1.cell? ⟨wr.heap.size, 1, none⟩ = some (.func (.func 51) #[] #[]) := bx1 1 _ rfl; clear bx1 bxf))
    all_goals
     go_wp2
     go_roundg 1
     case measure => omega
     case rel => exact ⟨1, rfl, ⟨rfl⟩, ⟨fun j hj => by
      rcases Nat.lt_succ_iff_lt_or_eq.mp hj with h | rfl
      ·exact HW.out j h
      ·intro e; exact cc.out (Option.some.inj e).symm⟩, HP, HC⟩
  ·obtain ⟨gx1, gxf, gx3⟩ := pcell HTw.out
   have x0 : wr.cell? ⟨g, 2, none⟩ = some (.string ⟨#[111, 112, 116, 105, 111, 110]⟩) := gx1 2 _ rfl
   have x1 : wr.cell? ⟨g, 3, none⟩ = some (Value.nilFunc) := gx1 3 _ rfl
   clear gx1 gxf
   have HGb := Aside0.mk (show b < wr.heap.size ∧ X.B ≤ b ∧ W.heap.size ≤ wr.heap.size from ⟨HP.out.lt, HP.out.ge, HC.out.size⟩)
   clear HG
   have HG := HGb
   by_cases c : (Pm.now X.e s).f2.toList = ([111, 112, 116, 105, 111, 110] : List UInt8)
   ·have cb : (([111, 112, 116, 105, 111, 110] : List UInt8) == (Pm.now X.e s).f2.toList) = true := beq_iff_eq.mpr c.symm
    have cc := Aside0.mk c
    clear c
    have HX := Aside0.mk (blk_new wr (.cells #[.string ⟨#[111, 112, 116, 105, 111, 110]⟩, Value.nilFunc] 98))
    go_wp2
    go_region_law ((go_simp; go_at_call 58; refine (now_calls b X s _ HP.out.fr).mono ?_; rintro e w1 ⟨rfl, hb⟩; have n0_ := Aside0.mk (PAt.below HP.out.fr hb); have n1_ := Aside0.mk (Ch.then_below HC.out.fr hb); have nx_ := Aside0.mk ((hb.block _ (pcell (bx_dr HX.out)).2.2).trans (bx_dr HX.out)); clear HP HC hb; have HP := n0_; have HC := n1_; clear n0_ n1_; (try clear HX); have HX := nx_; clear nx_; obtain ⟨bx1, bxf, bx3⟩ := pcell HX.out; have y0 : w1.cell? ⟨wr.heap.size, 0, none⟩ = some (.string ⟨#[111, 112, 116, 105, 111, 110]⟩) := bx1 0 _ rfl; have y1 : w1.cell? ⟨wr.heap.size, 1, none⟩ = some (Value.nilFunc) := bx1 1 _ rfl; clear bx1 bxf))
    all_goals
     go_wp2_with fail
     refine (fail_calls b X 52 s _ HP.out.fr).mono ?_
     rintro e w2 ⟨rfl, hb⟩
     exact ⟨rfl, HNil.out cc.out _ (Ch.then_below HC.out.fr hb)⟩
   ·have cb : (([111, 112, 116, 105, 111, 110] : List UInt8) == (Pm.now X.e s).f2.toList) = false := beq_eq_false_iff_ne.mpr (fun e => c e.symm)
    have cc := Aside0.mk c
    clear c
    have HX := Aside0.mk (blk_new wr (.cells #[.string ⟨#[111, 112, 116, 105, 111, 110]⟩, Value.nilFunc] 98))
    obtain rfl : gk = 1 := by have := HK1.out; omega
    go_wp2
    go_region_law ((go_simp; go_at_call 58; refine (now_calls b X s _ HP.out.fr).mono ?_; rintro e w1 ⟨rfl, hb⟩; have n0_ := Aside0.mk (PAt.below HP.out.fr hb); have n1_ := Aside0.mk (Ch.then_below HC.out.fr hb); have nx_ := Aside0.mk ((hb.block _ (pcell (bx_dr HX.out)).2.2).trans (bx_dr HX.out)); clear HP HC hb; have HP := n0_; have HC := n1_; clear n0_ n1_; (try clear HX); have HX := nx_; clear nx_; obtain ⟨bx1, bxf, bx3⟩ := pcell HX.out; have y0 : w1.cell? ⟨wr.heap.size, 0, none⟩ = some (.string ⟨#[111, 112, 116, 105, 111, 110]⟩) := bx1 0 _ rfl; have y1 : w1.cell? ⟨wr.heap.size, 1, none⟩ = some (Value.nilFunc) := bx1 1 _ rfl; clear bx1 bxf))
    all_goals
     go_wp2
     go_roundg 0
     case measure => omega
     case rel => exact ⟨2, rfl, ⟨rfl⟩, ⟨fun j hj => by
      rcases Nat.lt_succ_iff_lt_or_eq.mp hj with h | rfl
      ·exact HW.out j h
      ·intro e; exact cc.out (Option.some.inj e).symm⟩, HP, HC⟩
  ·clear HG
   go_wp2
   refine HMiss.out (fun w hw e => ?_) _ HP.out HC.out
   obtain ⟨j, hj, rfl⟩ := List.mem_iff_getElem.mp hw
   exact HW.out j hj ((List.getElem?_eq_getElem hj).trans (congrArg some e))
def tabM : Array Value := #[.string ⟨#[109, 101, 115, 115, 97, 103, 101]⟩, .func (.func 45) #[] #[], .string ⟨#[101, 110, 117, 109]⟩, .func (.func 46) #[] #[], .string ⟨#[111, 110, 101, 111, 102]⟩, .func (.func 47) #[] #[], .string ⟨#[114, 101, 115, 101, 114, 118, 101, 100]⟩, .func (.func 48) #[] #[], .string ⟨#[111, 112, 116, 105, 111, 110, 97, 108]⟩, .func (.func 50) #[] #[], .string ⟨#[114, 101, 112, 101, 97, 116, 101, 100]⟩, .func (.func 50) #[] #[], .string ⟨#[111, 112, 116, 105, 111, 110]⟩, Value.nilFunc, .string ⟨#[101, 120, 116, 101, 110, 100]⟩, Value.nilFunc, .string ⟨#[101, 120, 116, 101, 110, 115, 105, 111, 110, 115]⟩, Value.nilFunc, .string ⟨#[103, 114, 111, 117, 112]⟩, Value.nilFunc, .string ⟨#[114, 101, 113, 117, 105, 114, 101, 100]⟩, Value.nilFunc]
def wordsM : List (List UInt8) := [[109, 101, 115, 115, 97, 103, 101], [101, 110, 117, 109], [111, 110, 101, 111, 102], [114, 101, 115, 101, 114, 118, 101, 100], [111, 112, 116, 105, 111, 110, 97, 108], [114, 101, 112, 101, 97, 116, 101, 100], [111, 112, 116, 105, 111, 110], [101, 120, 116, 101, 110, 100], [101, 120, 116, 101, 110, 115, 105, 111, 110, 115], [103, 114, 111, 117, 112], [114, 101, 113, 117, 105, 114, 101, 100]]
set_option maxHeartbeats 4000000 in
set_option maxRecDepth 100000 in
theorem startedM_calls (b g : Nat) (X : PFix) (s : PS) (pin : Value) (Q : Ending → World → Prop) (W : World) (h : PAt b X W s) (hg : W.heap[g]? = some (.cells tabM 90 (0, 0))) (hgb : g ≠ b)
  (hmiss : (∀ w ∈ wordsM, w ≠ (Pm.now X.e s).f2.toList) → ∀ w', PAt b X w' s → Ch (· = b) W w' → Q (.returned (.bool false)) w')
  (h0 : (Pm.now X.e s).f2.toList = ([109, 101, 115, 115, 97, 103, 101] : List UInt8) → ∀ w, PAt b X w s → Ch (· = b) W w → Calls Tryd.prog 45 #[.pointer (some ⟨b, 0, none⟩), pin] w (fun e w' => (e = .returned (.tuple #[]) ∧ Q (.returned (.bool true)) w') ∨ (∃ v, e = .panicked v ∧ Q e w')))
  (h1 : (Pm.now X.e s).f2.toList = ([101, 110, 117, 109] : List UInt8) → ∀ w, PAt b X w s → Ch (· = b) W w → Calls Tryd.prog 46 #[.pointer (some ⟨b, 0, none⟩), pin] w (fun e w' => (e = .returned (.tuple #[]) ∧ Q (.returned (.bool true)) w') ∨ (∃ v, e = .panicked v ∧ Q e w')))
  (h2 : (Pm.now X.e s).f2.toList = ([111, 110, 101, 111, 102] : List UInt8) → ∀ w, PAt b X w s → Ch (· = b) W w → Calls Tryd.prog 47 #[.pointer (some ⟨b, 0, none⟩), pin] w (fun e w' => (e = .returned (.tuple #[]) ∧ Q (.returned (.bool true)) w') ∨ (∃ v, e = .panicked v ∧ Q e w')))
  (h3 : (Pm.now X.e s).f2.toList = ([114, 101, 115, 101, 114, 118, 101, 100] : List UInt8) → ∀ w, PAt b X w s → Ch (· = b) W w → Calls Tryd.prog 48 #[.pointer (some ⟨b, 0, none⟩), pin] w (fun e w' => (e = .returned (.tuple #[]) ∧ Q (.returned (.bool true)) w') ∨ (∃ v, e = .panicked v ∧ Q e w')))
  (h4 : (Pm.now X.e s).f2.toList = ([111, 112, 116, 105, 111, 110, 97, 108] : List UInt8) → ∀ w, PAt b X w s → Ch (· = b) W w → Calls Tryd.prog 50 #[.pointer (some ⟨b, 0, none⟩), pin] w (fun e w' => (e = .returned (.tuple #[]) ∧ Q (.returned (.bool true)) w') ∨ (∃ v, e = .panicked v ∧ Q e w')))
  (h5 : (Pm.now X.e s).f2.toList = ([114, 101, 112, 101, 97, 116, 101, 100] : List UInt8) → ∀ w, PAt b X w s → Ch (· = b) W w → Calls Tryd.prog 50 #[.pointer (some ⟨b, 0, none⟩), pin] w (fun e w' => (e = .returned (.tuple #[]) ∧ Q (.returned (.bool true)) w') ∨ (∃ v, e = .panicked v ∧ Q e w')))
  (hnil : (Pm.now X.e s).f2.toList = ([111, 112, 116, 105, 111, 110] : List UInt8) ∨ (Pm.now X.e s).f2.toList = ([101, 120, 116, 101, 110, 100] : List UInt8) ∨ (Pm.now X.e s).f2.toList = ([101, 120, 116, 101, 110, 115, 105, 111, 110, 115] : List UInt8) ∨ (Pm.now X.e s).f2.toList = ([103, 114, 111, 117, 112] : List UInt8) ∨ (Pm.now X.e s).f2.toList = ([114, 101, 113, 117, 105, 114, 101, 100] : List UInt8) → ∀ w', Ch (· = b) W w' → Q (thrown 52 (Pm.now X.e s).f1) w') :
  Calls Tryd.prog 87 #[.pointer (some ⟨b, 0, none⟩), .slice (some ⟨g, 0, none⟩) 11 11, pin] W Q := by
 have HP := Aside0.mk h
 have HC := Aside0.mk (Ch.refl (· = b) W)
 have HG := Aside0.mk True.intro
 have HT := Aside0.mk hg
 have HB := Aside0.mk hgb
 have HMiss := Aside0.mk hmiss
 have HNil := Aside0.mk hnil
 have H0 := Aside0.mk h0
 have H1 := Aside0.mk h1
 have H2 := Aside0.mk h2
 have H3 := Aside0.mk h3
 have H4 := Aside0.mk h4
 have H5 := Aside0.mk h5
 clear h hg hgb hmiss hnil h0 h1 h2 h3 h4 h5
 have hf := fld2
 have hq1 : ∀ (f : Fn) (w : World), (binOp .eql 88 (.func f #[] #[]) .nilFunc).run Tryd.prog w = .ok (.bool false) w := fun f w => by kernel_rfl
 have hq2 : ∀ (w : World), (binOp .eql 88 .nilFunc .nilFunc).run Tryd.prog w = .ok (.bool true) w := fun w => by kernel_rfl
 go_enter Tryd.func87, Tryd.ntmps87
 go_wp2
 go_loopg [11] 11 (fun kq v11 w' => ∃ i : Nat, v11 = .int .i64 (i : Int) ∧ Aside0 (kq + i = 11) ∧ Aside0 (∀ j, j < i → wordsM[j]? ≠ some (Pm.now X.e s).f2.toList) ∧ Aside0 (PAt b X w' s) ∧ Aside0 (Ch (· = b) W w'))
 case atStart => exact ⟨0, rfl, ⟨rfl⟩, ⟨fun j hj => absurd hj (Nat.not_lt_zero _)⟩, HP, HC⟩
 case round =>
  clear HP HC
  obtain ⟨i, rfl, HK1, HW, HP, HC⟩ := hrel
  have hi : i = 0 ∨ i = 1 ∨ i = 2 ∨ i = 3 ∨ i = 4 ∨ i = 5 ∨ i = 6 ∨ i = 7 ∨ i = 8 ∨ i = 9 ∨ i = 10 ∨ i = 11 := by have := HK1.out; omega
  have HTw := Aside0.mk ((HC.out.block g (Array.getElem?_eq_some_iff.1 HT.out).1 HB.out).trans HT.out)
  rcases hi with rfl | rfl | rfl | rfl | rfl | rfl | rfl | rfl | rfl | rfl | rfl | rfl
  ·obtain ⟨gx1, gxf, gx3⟩ := pcell HTw.out
   have x0 : wr.cell? ⟨g, 0, none⟩ = some (.string ⟨#[109, 101, 115, 115, 97, 103, 101]⟩) := gx1 0 _ rfl
   have x1 : wr.cell? ⟨g, 1, none⟩ = some (.func (.func 45) #[] #[]) := gx1 1 _ rfl
   clear gx1 gxf
   have HGb := Aside0.mk (show b < wr.heap.size ∧ X.B ≤ b ∧ W.heap.size ≤ wr.heap.size from ⟨HP.out.lt, HP.out.ge, HC.out.size⟩)
   clear HG
   have HG := HGb
   by_cases c : (Pm.now X.e s).f2.toList = ([109, 101, 115, 115, 97, 103, 101] : List UInt8)
   ·have cb : (([109, 101, 115, 115, 97, 103, 101] : List UInt8) == (Pm.now X.e s).f2.toList) = true := beq_iff_eq.mpr c.symm
    have cc := Aside0.mk c
    clear c
    have HX := Aside0.mk (blk_new wr (.cells #[.string ⟨#[109, 101, 115, 115, 97, 103, 101]⟩, .func (.func 45) #[] #[]] 90))
    go_wp2
    go_region_law ((go_simp; go_at_call 58; refine (now_calls b X s _ HP.out.fr).mono ?_; rintro e w1 ⟨rfl, hb⟩; have n0_ := Aside0.mk (PAt.below HP.out.fr hb); have n1_ := Aside0.mk (Ch.then_below HC.out.fr hb); have nx_ := Aside0.mk ((hb.block _ (pcell (bx_dr HX.out)).2.2).trans (bx_dr HX.out)); clear HP HC hb; have HP := n0_; have HC := n1_; clear n0_ n1_; (try clear HX); have HX := nx_; clear nx_; obtain ⟨bx1, bxf, bx3⟩ := pcell HX.out; have y0 : w1.cell? ⟨wr.heap.size, 0, none⟩ = some (.string ⟨#[109, 101, 115, 115, 97, 103, 101]⟩) := bx1 0 _ rfl; have y1 : w1.cell? ⟨wr.heap.size, 1, none⟩ = some (.func (.func 45) #[] #[]) := bx1 1 _ rfl; clear bx1 bxf))
    all_goals
     go_wp2_with fail
     refine (H0.out cc.out _ HP.out.fr HC.out.fr).mono ?_
     rintro e w2 (⟨rfl, hq⟩ | ⟨v, rfl, hq⟩)
     ·have HQ := Aside0.mk hq
      clear hq
      go_wp2
      exact HQ.out
     ·exact ⟨rfl, hq⟩
   ·have cb : (([109, 101, 115, 115, 97, 103, 101] : List UInt8) == (Pm.now X.e s).f2.toList) = false := beq_eq_false_iff_ne.mpr (fun e => c e.symm)
    have cc := Aside0.mk c
    clear c
    have HX := Aside0.mk (blk_new wr (.cells #[.string ⟨#[109, 101, 115, 115, 97, 103, 101]⟩, .func (.func 45) #[] #[]] 90))
    obtain rfl : gk = 11 := by have := HK1.out; omega
    go_wp2
    go_region_law ((go_simp; go_at_call 58; refine (now_calls b X s _ HP.out.fr).mono ?_; rintro e w1 ⟨rfl, hb⟩; have n0_ := Aside0.mk (PAt.below HP.out.fr hb); have n1_ := Aside0.mk (Ch.then_below HC.out.fr hb); have nx_ := Aside0.mk ((hb.block _ (pcell (bx_dr HX.out)).2.2).trans (bx_dr HX.out)); clear HP HC hb; have HP := n0_; have HC := n1_; clear n0_ n1_; (try clear HX); have HX := nx_; clear nx_; obtain ⟨bx1, bxf, bx3⟩ := pcell HX.out; have y0 : w1.cell? ⟨wr.heap.size, 0, none⟩ = some (.string ⟨#[109, 101, 115, 115, 97, 103, 101]⟩) := bx1 0 _ rfl; have y1 : w1.cell? ⟨wr.heap.size, 1, none⟩ = some (.func (.func 45) #[] #[]) := bx1 1 _ rfl; clear bx1 bxf))
    all_goals
     go_wp2
     go_roundg 10
     case measure => omega
     case rel => exact ⟨1, rfl, ⟨rfl⟩, ⟨fun j hj => by
      rcases Nat.lt_succ_iff_lt_or_eq.mp hj with h | rfl
      ·exact HW.out j h
      ·intro e; exact cc.out (Option.some.inj e).symm⟩, HP, HC⟩
  ·obtain ⟨gx1, gxf, gx3⟩ := pcell HTw.out
   have x0 : wr.cell? ⟨g, 2, none⟩ = some (.string ⟨#[101, 110, 117, 109]⟩) := gx1 2 _ rfl
   have x1 : wr.cell? ⟨g, 3, none⟩ = some (.func (.func 46) #[] #[]) := gx1 3 _ rfl
   clear gx1 gxf
   have HGb := Aside0.mk (show b < wr.heap.size ∧ X.B ≤ b ∧ W.heap.size ≤ wr.heap.size from ⟨HP.out.lt, HP.out.ge, HC.out.size⟩)
   clear HG
   have HG := HGb
   by_cases c : (Pm.now X.e s).f2.toList = ([101, 110, 117, 109] : List UInt8)
   ·have cb : (([101, 110, 117, 109] : List UInt8) == (Pm.now X.e s).f2.toList) = true := beq_iff_eq.mpr c.symm
    have cc := Aside0.mk c
    clear c
    have HX := Aside0.mk (blk_new wr (.cells #[.string ⟨#[101, 110, 117, 109]⟩, .func (.func 46) #[] #[]] 90))
    go_wp2
    go_region_law ((go_simp; go_at_call 58; refine (now_calls b X s _ HP.out.fr).mono ?_; rintro e w1 ⟨rfl, hb⟩; have n0_ := Aside0.mk (PAt.below HP.out.fr hb); have n1_ := Aside0.mk (Ch.then_below HC.out.fr hb); have nx_ := Aside0.mk ((hb.block _ (pcell (bx_dr HX.out)).2.2).trans (bx_dr HX.out)); clear HP HC hb; have HP := n0_; have HC := n1_; clear n0_ n1_; (try clear HX); have HX := nx_; clear nx_; obtain ⟨bx1, bxf, bx3⟩ := pcell HX.out; have y0 : w1.cell? ⟨wr.heap.size, 0, none⟩ = some (.string ⟨#[101, 110, 117, 109]⟩) := bx1 0 _ rfl; have y1 : w1.cell? ⟨wr.heap.size, 1, none⟩ = some (.func (.func 46) #[] #[]) := bx1 1 _ rfl; clear bx1 bxf))
    all_goals
     go_wp2_with fail
     refine (H1.out cc.out _ HP.out.fr HC.out.fr).mono ?_
     rintro e w2 (⟨rfl, hq⟩ | ⟨v, rfl, hq⟩)
     ·have HQ := Aside0.mk hq
      clear hq
      go_wp2
      exact HQ.out
     ·exact ⟨rfl, hq⟩
   ·have cb : (([101, 110, 117, 109] : List UInt8) == (Pm.now X.e s).f2.toList) = false := beq_eq_false_iff_ne.mpr (fun e => c e.symm)
    have cc := Aside0.mk c
    clear c
    have HX := Aside0.mk (blk_new wr (.cells #[.string ⟨#[101, 110, 117, 109]⟩, .func (.func 46) #[] #[]] 90))
    obtain rfl : gk = 10 := by have := HK1.out; omega
    go_wp2
    go_region_law ((go_simp; go_at_call 58; refine (now_calls b X s _ HP.out.fr).mono ?_; rintro e w1 ⟨rfl, hb⟩; have n0_ := Aside0.mk (PAt.below HP.out.fr hb); have n1_ := Aside0.mk (Ch.then_below HC.out.fr hb); have nx_ := Aside0.mk ((hb.block _ (pcell (bx_dr HX.out)).2.2).trans (bx_dr HX.out)); clear HP HC hb; have HP := n0_; have HC := n1_; clear n0_ n1_; (try clear HX); have HX := nx_; clear nx_; obtain ⟨bx1, bxf, bx3⟩ := pcell HX.out; have y0 : w1.cell? ⟨wr.heap.size, 0, none⟩ = some (.string ⟨#[101, 110, 117, 109]⟩) := bx1 0 _ rfl; have y1 : w1.cell? ⟨wr.heap.size, 1, none⟩ = some (.func (.func 46) #[] #[]) := bx1 1 _ rfl; clear bx1 bxf))
    all_goals
     go_wp2
     go_roundg 9
     case measure => omega
     case rel => exact ⟨2, rfl, ⟨rfl⟩, ⟨fun j hj => by
      rcases Nat.lt_succ_iff_lt_or_eq.mp hj with h | rfl
      ·exact HW.out j h
      ·intro e; exact cc.out (Option.some.inj e).symm⟩, HP, HC⟩
  ·obtain ⟨gx1, gxf, gx3⟩ := pcell HTw.out
   have x0 : wr.cell? ⟨g, 4, none⟩ = some (.string ⟨#[111, 110, 101, 111, 102]⟩) := gx1 4 _ rfl
   have x1 : wr.cell? ⟨g, 5, none⟩ = some (.func (.func 47) #[] #[]) := gx1 5 _ rfl
   clear gx1 gxf
   have HGb := Aside0.mk (show b < wr.heap.size ∧ X.B ≤ b ∧ W.heap.size ≤ wr.heap.size from ⟨HP.out.lt, HP.out.ge, HC.out.size⟩)
   clear HG
   have HG := HGb
   by_cases c : (Pm.now X.e s).f2.toList = ([111, 110, 101, 111, 102] : List UInt8)
   ·have cb : (([111, 110, 101, 111, 102] : List UInt8) == (Pm.now X.e s).f2.toList) = true := beq_iff_eq.mpr c.symm
    have cc := Aside0.mk c
    clear c
    have HX := Aside0.mk (blk_new wr (.cells #[.string ⟨#[111, 110, 101, 111, 102]⟩, .func (.func 47) #[] #[]] 90))
    go_wp2
    go_region_law ((go_simp; go_at_call 58; refine (now_calls b X s _ HP.out.fr).mono ?_; rintro e w1 ⟨rfl, hb⟩; have n0_ := Aside0.mk (PAt.below HP.out.fr hb); have n1_ := Aside0.mk (Ch.then_below HC.out.fr hb); have nx_ := Aside0.mk ((hb.block _ (pcell (bx_dr HX.out)).2.2).trans (bx_dr HX.out)); clear HP HC hb; have HP := n0_; have HC := n1_; clear n0_ n1_; (try clear HX); have HX := nx_; clear nx_; obtain ⟨bx1, bxf, bx3⟩ := pcell HX.out; have y0 : w1.cell? ⟨wr.heap.size, 0, none⟩ = some (.string ⟨#[111, 110, 101, 111, 102]⟩) := bx1 0 _ rfl; have y1 : w1.cell? ⟨wr.heap.size, 1, none⟩ = some (.func (.func 47) #[] #[]) := bx1 1 _ rfl; clear bx1 bxf))
    all_goals
     go_wp2_with fail
     refine (H2.out cc.out _ HP.out.fr HC.out.fr).mono ?_
     rintro e w2 (⟨rfl, hq⟩ | ⟨v, rfl, hq⟩)
     ·have HQ := Aside0.mk hq
      clear hq
      go_wp2
      exact HQ.out
     ·exact ⟨rfl, hq⟩
   ·have cb : (([111, 110, 101, 111, 102] : List UInt8) == (Pm.now X.e s).f2.toList) = false := beq_eq_false_iff_ne.mpr (fun e => c e.symm)
    have cc := Aside0.mk c
    clear c
    have HX := Aside0.mk (blk_new wr (.cells #[.string ⟨#[111, 110, 101, 111, 102]⟩, .func (.func 47) #[] #[]] 90))
    obtain rfl : gk = 9 := by have := HK1.out; omega
    go_wp2
    go_region_law ((go_simp; go_at_call 58; refine (now_calls b X s _ HP.out.fr).mono ?_; rintro e w1 ⟨rfl, hb⟩; have n0_ := Aside0.mk (PAt.below HP.out.fr hb); have n1_ := Aside0.mk (Ch.then_below HC.out.fr hb); have nx_ := Aside0.mk ((hb.block _ (pcell (bx_dr HX.out)).2.2).trans (bx_dr HX.out)); clear HP HC hb; have HP := n0_; have HC := n1_; clear n0_ n1_; (try clear HX); have HX := nx_; clear nx_; obtain ⟨bx1, bxf, bx3⟩ := pcell HX.out; have y0 : w1.cell? ⟨wr.heap.size, 0, none⟩ = some (.string ⟨#[111, 110, 101, 111, 102]⟩) := bx1 0 _ rfl; have y1 : w1.cell? ⟨wr.heap.size, 1, none⟩ = some (.func (.func 47) #[] #[]) := bx1 1 _ rfl; clear bx1 bxf))
    all_goals
     go_wp2
     go_roundg 8
     case measure => omega
     case rel => exact ⟨3, rfl, ⟨rfl⟩, ⟨fun j hj => by
      rcases Nat.lt_succ_iff_lt_or_eq.mp hj with h | rfl
      ·exact HW.out j h
      ·intro e; exact cc.out (Option.some.inj e).symm⟩, HP, HC⟩
  ·obtain ⟨gx1, gxf, gx3⟩ := pcell HTw.out
   have x0 : wr.cell? ⟨g, 6, none⟩ = some (.string ⟨#[114, 101, 115, 101, 114, 118, 101, 100]⟩) := gx1 6 _ rfl
   have x1 : wr.cell? ⟨g, 7, none⟩ = some (.func (.func 48) #[] #[]) := gx1 7 _ rfl
   clear gx1 gxf
   have HGb := Aside0.mk (show b < wr.heap.size ∧ X.B ≤ b ∧ W.heap.size ≤ wr.heap.size from ⟨HP.out.lt, HP.out.ge, HC.out.size⟩)
   clear HG
   have HG := HGb
   by_cases c : (Pm.now X.e s).f2.toList = ([114, 101, 115, 101, 114, 118, 101, 100] : List UInt8)
   ·have cb : (([114, 101, 115, 101, 114, 118, 101, 100] : List UInt8) == (Pm.now X.e s).f2.toList) = true := beq_iff_eq.mpr c.symm
    have cc := Aside0.mk c
    clear c
    have HX := Aside0.mk (blk_new wr (.cells #[.string ⟨#[114, 101, 115, 101, 114, 118, 101, 100]⟩, .func (.func 48) #[] #[]] 90))
    go_wp2
    go_region_law ((go_simp; go_at_call 58; refine (now_calls b X s _ HP.out.fr).mono ?_; rintro e w1 ⟨rfl, hb⟩; have n0_ := Aside0.mk (PAt.below HP.out.fr hb); have n1_ := Aside0.mk (Ch.then_below HC.out.fr hb); have nx_ := Aside0.mk ((hb.block _ (pcell (bx_dr HX.out)).2.2).trans (bx_dr HX.out)); clear HP HC hb; have HP := n0_; have HC := n1_; clear n0_ n1_; (try clear HX); have HX := nx_; clear nx_; obtain ⟨bx1, bxf, bx3⟩ := pcell HX.out; have y0 : w1.cell? ⟨wr.heap.size, 0, none⟩ = some (.string ⟨#[114, 101, 115, 101, 114, 118, 101, 100]⟩) := bx1 0 _ rfl; have y1 : w1.cell? ⟨wr.heap.size, 1, none⟩ = some (.func (.func 48) #[] #[]) := bx1 1 _ rfl; clear bx1 bxf))
    all_goals
     go_wp2_with fail
     refine (H3.out cc.out _ HP.out.fr HC.out.fr).mono ?_
     rintro e w2 (⟨rfl, hq⟩ | ⟨v, rfl, hq⟩)
     ·have HQ := Aside0.mk hq
      clear hq
      go_wp2
      exact HQ.out
     ·exact ⟨rfl, hq⟩
   ·have cb : (([114, 101, 115, 101, 114, 118, 101, 100] : List UInt8) == (Pm.now X.e s).f2.toList) = false := beq_eq_false_iff_ne.mpr (fun e => c e.symm)
    have cc := Aside0.mk c
    clear c
    have HX := Aside0.mk (blk_new wr (.cells #[.string ⟨#[114, 101, 115, 101, 114, 118, 101, 100]⟩, .func (.func 48) #[] #[]] 90))
    obtain rfl : gk = 8 := by have := HK1.out; omega
    go_wp2
    go_region_law ((go_simp; go_at_call 58; refine (now_calls b X s _ HP.out.fr).mono ?_; rintro e w1 ⟨rfl, hb⟩; have n0_ := Aside0.mk (PAt.below HP.out.fr hb); have n1_ := Aside0.mk (Ch.then_below HC.out.fr hb); have nx_ := Aside0.mk ((hb.block _ (pcell (bx_dr HX.out)).2.2).trans (bx_dr HX.out)); clear HP HC hb; have HP := n0_; have HC := n1_; clear n0_ n1_; (try clear HX); have HX := nx_; clear nx_; obtain ⟨bx1, bxf, bx3⟩ := pcell HX.out; have y0 : w1.cell? ⟨wr.heap.size, 0, none⟩ = some (.string ⟨#[114, 101, 115, 101, 114, 118, 101, 100]⟩) := bx1 0 _ rfl; have y1 : w1.cell? ⟨wr.heap.size, 1, none⟩ = some (.func (.func 48) #[] #[]) := bx1 1 _ rfl; clear bx1 bxf))
    all_goals
     go_wp2
     go_roundg 7
     case measure => omega
     case rel => exact ⟨4, rfl, ⟨rfl⟩, ⟨fun j hj => by
      rcases Nat.lt_succ_iff_lt_or_eq.mp hj with h | rfl
      ·exact HW.out j h
      ·intro e; exact cc.out (Option.some.inj e).symm⟩, HP, HC⟩
  ·obtain ⟨gx1, gxf, gx3⟩ := pcell HTw.out
   have x0 : wr.cell? ⟨g, 8, none⟩ = some (.string ⟨#[111, 112, 116, 105, 111, 110, 97, 108]⟩) := gx1 8 _ rfl
   have x1 : wr.cell? ⟨g, 9, none⟩ = some (.func (.func 50) #[] #[]) := gx1 9 _ rfl
   clear gx1 gxf
   have HGb := Aside0.mk (show b < wr.heap.size ∧ X.B ≤ b ∧ W.heap.size ≤ wr.heap.size from ⟨HP.out.lt, HP.out.ge, HC.out.size⟩)
   clear HG
   have HG := HGb
   by_cases c : (Pm.now X.e s).f2.toList = ([111, 112, 116, 105, 111, 110, 97, 108] : List UInt8)
   ·have cb : (([111, 112, 116, 105, 111, 110, 97, 108] : List UInt8) == (Pm.now X.e s).f2.toList) = true := beq_iff_eq.mpr c.symm
    have cc := Aside0.mk c
    clear c
    have HX := Aside0.mk (blk_new wr (.cells #[.string ⟨#[111, 112, 116, 105, 111, 110, 97, 108]⟩, .func (.func 50) #[] #[]] 90))
    go_wp2
    go_region_law ((go_simp; go_at_call 58; refine (now_calls b X s _ HP.out.fr).mono ?_; rintro e w1 ⟨rfl, hb⟩; have n0_ := Aside0.mk (PAt.below HP.out.fr hb); have n1_ := Aside0.mk (Ch.then_below HC.out.fr hb); have nx_ := Aside0.mk ((hb.block _ (pcell (bx_dr HX.out)).2.2).trans (bx_dr HX.out)); clear HP HC hb; have HP := n0_; have HC := n1_; clear n0_ n1_; (try clear HX); have HX := nx_; clear nx_; obtain ⟨bx1, bxf, bx3⟩ := pcell HX.out; have y0 : w1.cell? ⟨wr.heap.size, 0, none⟩ = some (.string ⟨#[111, 112, 116, 105, 111, 110, 97, 108]⟩) := bx1 0 _ rfl; have y1 : w1.cell? ⟨wr.heap.size, 1, none⟩ = some (.func (.func 50) #[] #[]) := bx1 1 _ rfl; clear bx1 bxf))
    all_goals
     go_wp2_with fail
     refine (H4.out cc.out _ HP.out.fr HC.out.fr).mono ?_
     rintro e w2 (⟨rfl, hq⟩ | ⟨v, rfl, hq⟩)
     ·have HQ := Aside0.mk hq
      clear hq
      go_wp2
      exact HQ.out
     ·exact ⟨rfl, hq⟩
   ·have cb : (([111, 112, 116, 105, 111, 110, 97, 108] : List UInt8) == (Pm.now X.e s).f2.toList) = false := beq_eq_false_iff_ne.mpr (fun e => c e.symm)
    have cc := Aside0.mk c
    clear c
    have HX := Aside0.mk (blk_new wr (.cells #[.string ⟨#[111, 112, 116, 105, 111, 110, 97, 108]⟩, .func (.func 50) #[] #[]] 90))
    obtain rfl : gk = 7 := by have := HK1.out; omega
    go_wp2
    go_region_law ((go_simp; go_at_call 58; refine (now_calls b X s _ HP.out.fr).mono ?_; rintro e w1 ⟨rfl, hb⟩; have n0_ := Aside0.mk (PAt.below HP.out.fr hb); have n1_ := Aside0.mk (Ch.then_below HC.out.fr hb); have nx_ := Aside0.mk ((hb.block _ (pcell (bx_dr HX.out)).2.2).trans (bx_dr HX.out)); clear HP HC hb; have HP := n0_; have HC := n1_; clear n0_ n1_; (try clear HX); have HX := nx_; clear nx_; obtain ⟨bx1, bxf, bx3⟩ := pcell HX.out; have y0 : w1.cell? ⟨wr.heap.size, 0, none⟩ = some (.string ⟨#[111, 112, 116, 105, 111, 110, 97, 108]⟩) := bx1 0 _ rfl; have y1 : w1.cell? ⟨wr.heap.size, 1, none⟩ = some (.func (.func 50) #[] #[]) := bx1 1 _ rfl; clear bx1 bxf))
    all_goals
     go_wp2
     go_roundg 6
     case measure => omega
     case rel => exact ⟨5, rfl, ⟨rfl⟩, ⟨fun j hj => by
      rcases Nat.lt_succ_iff_lt_or_eq.mp hj with h | rfl
      ·exact HW.out j h
      ·intro e; exact cc.out (Option.some.inj e).symm⟩, HP, HC⟩
  ·obtain ⟨gx1, gxf, gx3⟩ := pcell HTw.out
   have x0 : wr.cell? ⟨g, 10, none⟩ = some (.string ⟨#[114, 101, 112, 101, 97, 116, 101, 100]⟩) := gx1 10 _ rfl
   have x1 : wr.cell? ⟨g, 11, none⟩ = some (.func (.func 50) #[] #[]) := gx1 11 _ rfl
   clear gx1 gxf
   have HGb := Aside0.mk (show b < wr.heap.size ∧ X.B ≤ b ∧ W.heap.size ≤ wr.heap.size from ⟨HP.out.lt, HP.out.ge, HC.out.size⟩)
   clear HG
   have HG := HGb
   by_cases c : (Pm.now X.e s).f2.toList = ([114, 101, 112, 101, 97, 116, 101, 100] : List UInt8)
   ·have cb : (([114, 101, 112, 101, 97, 116, 101, 100] : List UInt8) == (Pm.now X.e s).f2.toList) = true := beq_iff_eq.mpr c.symm
    have cc := Aside0.mk c
    clear c
    have HX := Aside0.mk (blk_new wr (.cells #[.string ⟨#[114, 101, 112, 101, 97, 116, 101, 100]⟩, .func (.func 50) #[] #[]] 90))
    go_wp2
    go_region_law ((go_simp; go_at_call 58; refine (now_calls b X s _ HP.out.fr).mono ?_; rintro e w1 ⟨rfl, hb⟩; have n0_ := Aside0.mk (PAt.below HP.out.fr hb); have n1_ := Aside0.mk (Ch.then_below HC.out.fr hb); have nx_ := Aside0.mk ((hb.block _ (pcell (bx_dr HX.out)).2.2).trans (bx_dr HX.out)); clear HP HC hb; have HP := n0_; have HC := n1_; clear n0_ n1_; (try clear HX); have HX := nx_; clear nx_; obtain ⟨bx1, bxf, bx3⟩ := pcell HX.out; have y0 : w1.cell? ⟨wr.heap.size, 0, none⟩ = some (.string ⟨#[114, 101, 112, 101, 97, 116, 101, 100]⟩) := bx1 0 _ rfl; have y1 : w1.cell? ⟨wr.heap.size, 1, none⟩ = some (.func (.func 50) #[] #[]) := bx1 1 _ rfl; clear bx1 bxf))
    all_goals
     go_wp2_with fail
     refine (H5.out cc.out _ HP.out.fr HC.out.fr).mono ?_
     rintro e w2 (⟨rfl, hq⟩ | ⟨v, rfl, hq⟩)
     ·have HQ := Aside0.mk hq
      clear hq
      go_wp2
      exact HQ.out
     ·exact ⟨rfl, hq⟩
   ·have cb : (([114, 101, 112, 101, 97, 116, 101, 100] : List UInt8) == (Pm.now X.e s).f2.toList) = false := beq_eq_false_iff_ne.mpr (fun e => c e.symm)
    have cc := Aside0.mk c
    clear c
    have HX := Aside0.mk (blk_new wr (.cells #[.string ⟨#[114, 101, 112, 101, 97, 116, 101, 100]⟩, .func (.func 50) #[] #[]] 90))
    obtain rfl : gk = 6 := by have := HK1.out; omega
    go_wp2
    go_region_law ((go_simp; go_at_call 58; refine (now_calls b X s _ HP.out.fr).mono ?_; rintro e w1 ⟨rfl, hb⟩; have n0_ := Aside0.mk (PAt.below HP.out.fr hb); have n1_ := Aside0.mk (Ch.then_below HC.out.fr hb); have nx_ := Aside0.mk ((hb.block _ (pcell (bx_dr HX.out)).2.2).trans (bx_dr HX.out)); clear HP HC hb; have HP := n0_; have HC := n1_; clear n0_ n1_; (try clear HX); have HX := nx_; clear nx_; obtain ⟨bx1, bxf, bx3⟩ := pcell HX.out; have y0 : w1.cell? ⟨wr.heap.size, 0, none⟩ = some (.string ⟨#[114, 101, 112, 101, 97, 116, 101, 100]⟩) := bx1 0 _ rfl; have y1 : w1.cell? ⟨wr.heap.size, 1, none⟩ = some (.func (.func 50) #[] #[]) := bx1 1 _ rfl; clear bx1 bxf))
    all_goals
     go_wp2
     go_roundg 5
     case measure => omega
     case rel => exact ⟨6, rfl, ⟨rfl⟩, ⟨fun j hj => by
      rcases Nat.lt_succ_iff_lt_or_eq.mp hj with h | rfl
      ·exact HW.out j h
      ·intro e; exact cc.out (Option.some.inj e).symm⟩, HP, HC⟩
  ·obtain ⟨gx1, gxf, gx3⟩ := pcell HTw.out
   have x0 : wr.cell? ⟨g, 12, none⟩ = some (.string ⟨#[111, 112, 116, 105, 111, 110]⟩) := gx1 12 _ rfl
   have x1 : wr.cell? ⟨g, 13, none⟩ = some (Value.nilFunc) := gx1 13 _ rfl
   clear gx1 gxf
   have HGb := Aside0.mk (show b < wr.heap.size ∧ X.B ≤ b ∧ W.heap.size ≤ wr.heap.size from ⟨HP.out.lt, HP.out.ge, HC.out.size⟩)
   clear HG
   have HG := HGb
   by_cases c : (Pm.now X.e s).f2.toList = ([111, 112, 116, 105, 111, 110] : List UInt8)
   ·have cb : (([111, 112, 116, 105, 111, 110] : List UInt8) == (Pm.now X.e s).f2.toList) = true := beq_iff_eq.mpr c.symm
    have cc := Aside0.mk c
    clear c
    have HX := Aside0.mk (blk_new wr (.cells #[.string ⟨#[111, 112, 116, 105, 111, 110]⟩, Value.nilFunc] 90))
    go_wp2
    go_region_law ((go_simp; go_at_call 58; refine (now_calls b X s _ HP.out.fr).mono ?_; rintro e w1 ⟨rfl, hb⟩; have n0_ := Aside0.mk (PAt.below HP.out.fr hb); have n1_ := Aside0.mk (Ch.then_below HC.out.fr hb); have nx_ := Aside0.mk ((hb.block _ (pcell (bx_dr HX.out)).2.2).trans (bx_dr HX.out)); clear HP HC hb; have HP := n0_; have HC := n1_; clear n0_ n1_; (try clear HX); have HX := nx_; clear nx_; obtain ⟨bx1, bxf, bx3⟩ := pcell HX.out; have y0 : w1.cell? ⟨wr.heap.size, 0, none⟩ = some (.string ⟨#[111, 112, 116, 105, 111, 110]⟩) := bx1 0 _ rfl; have y1 : w1.cell? ⟨wr.heap.size, 1, none⟩ = some (Value.nilFunc) := bx1 1 _ rfl; clear bx1 bxf))
    all_goals
     go_wp2_with fail
     refine (fail_calls b X 52 s _ HP.out.fr).mono ?_
     rintro e w2 ⟨rfl, hb⟩
     exact ⟨rfl, HNil.out (by first | exact Or.inl cc.out | exact Or.inr (Or.inl cc.out) | exact Or.inr (Or.inr (Or.inl cc.out)) | exact Or.inr (Or.inr (Or.inr (Or.inl cc.out))) | exact Or.inr (Or.inr (Or.inr (Or.inr (cc.out))))) _ (Ch.then_below HC.out.fr hb)⟩
   ·have cb : (([111, 112, 116, 105, 111, 110] : List UInt8) == (Pm.now X.e s).f2.toList) = false := beq_eq_false_iff_ne.mpr (fun e => c e.symm)
    have cc := Aside0.mk c
    clear c
    have HX := Aside0.mk (blk_new wr (.cells #[.string ⟨#[111, 112, 116, 105, 111, 110]⟩, Value.nilFunc] 90))
    obtain rfl : gk = 5 := by have := HK1.out; omega
    go_wp2
    go_region_law ((go_simp; go_at_call 58; refine (now_calls b X s _ HP.out.fr).mono ?_; rintro e w1 ⟨rfl, hb⟩; have n0_ := Aside0.mk (PAt.below HP.out.fr hb); have n1_ := Aside0.mk (Ch.then_below HC.out.fr hb); have nx_ := Aside0.mk ((hb.block _ (pcell (bx_dr HX.out)).2.2).trans (bx_dr HX.out)); clear HP HC hb; have HP := n0_; have HC := n1_; clear n0_ n1_; (try clear HX); have HX := nx_; clear nx_; obtain ⟨bx1, bxf, bx3⟩ := pcell HX.out; have y0 : w1.cell? ⟨wr.heap.size, 0, none⟩ = some (.string ⟨#[111, 112, 116, 105, 111, 110]⟩) := bx1 0 _ rfl; have y1 : w1.cell? ⟨wr.heap.size, 1, none⟩ = some (Value.nilFunc) := bx1 1 _ rfl; clear bx1 bxf))
    all_goals
     go_wp2
     go_roundg 4
     case measure => omega
     case rel => exact ⟨7, rfl, ⟨rfl⟩, ⟨fun j hj => by
      rcases Nat.lt_succ_iff_lt_or_eq.mp hj with h | rfl
      ·exact HW.out j h
      ·intro e; exact cc.out (Option.some.inj e).symm⟩, HP, HC⟩
  ·obtain ⟨gx1, gxf, gx3⟩ := pcell HTw.out
   have x0 : wr.cell? ⟨g, 14, none⟩ = some (.string ⟨#[101, 120, 116, 101, 110, 100]⟩) := gx1 14 _ rfl
   have x1 : wr.cell? ⟨g, 15, none⟩ = some (Value.nilFunc) := gx1 15 _ rfl
   clear gx1 gxf
   have HGb := Aside0.mk (show b < wr.heap.size ∧ X.B ≤ b ∧ W.heap.size ≤ wr.heap.size from ⟨HP.out.lt, HP.out.ge, HC.out.size⟩)
   clear HG
   have HG := HGb
   by_cases c : (Pm.now X.e s).f2.toList = ([101, 120, 116, 101, 110, 100] : List UInt8)
   ·have cb : (([101, 120, 116, 101, 110, 100] : List UInt8) == (Pm.now X.e s).f2.toList) = true := beq_iff_eq.mpr c.symm
    have cc := Aside0.mk c
    clear c
    have HX := Aside0.mk (blk_new wr (.cells #[.string ⟨#[101, 120, 116, 101, 110, 100]⟩, Value.nilFunc] 90))
    go_wp2
    go_region_law ((go_simp; go_at_call 58; refine (now_calls b X s _ HP.out.fr).mono ?_; rintro e w1 ⟨rfl, hb⟩; have n0_ := Aside0.mk (PAt.below HP.out.fr hb); have n1_ := Aside0.mk (Ch.then_below HC.out.fr hb); have nx_ := Aside0.mk ((hb.block _ (pcell (bx_dr HX.out)).2.2).trans (bx_dr HX.out)); clear HP HC hb; have HP := n0_; have HC := n1_; clear n0_ n1_; (try clear HX); have HX := nx_; clear nx_; obtain ⟨bx1, bxf, bx3⟩ := pcell HX.out; have y0 : w1.cell? ⟨wr.heap.size, 0, none⟩ = some (.string ⟨#[101, 120, 116, 101, 110, 100]⟩) := bx1 0 _ rfl; have y1 : w1.cell? ⟨wr.heap.size, 1, none⟩ = some (Value.nilFunc) := bx1 1 _ rfl; clear bx1 bxf))
    all_goals
     go_wp2_with fail
     refine (fail_calls b X 52 s _ HP.out.fr).mono ?_
     rintro e w2 ⟨rfl, hb⟩
     exact ⟨rfl, HNil.out (by first | exact Or.inl cc.out | exact Or.inr (Or.inl cc.out) | exact Or.inr (Or.inr (Or.inl cc.out)) | exact Or.inr (Or.inr (Or.inr (Or.inl cc.out))) | exact Or.inr (Or.inr (Or.inr (Or.inr (cc.out))))) _ (Ch.then_below HC.out.fr hb)⟩
   ·have cb : (([101, 120, 116, 101, 110, 100] : List UInt8) == (Pm.now X.e s).f2.toList) = false := beq_eq_false_iff_ne.mpr (fun e => c e.symm)
    have cc := Aside0.mk c
    clear c
    have HX := Aside0.mk (blk_new wr (.cells #[.string ⟨#[101, 120, 116, 101, 110, 100]⟩, Value.nilFunc] 90))
    obtain rfl : gk = 4 := by have := HK1.out; omega
    go_wp2
    go_region_law ((go_simp; go_at_call 58; refine (now_calls b X s _ HP.out.fr).mono ?_; rintro e w1 ⟨rfl, hb⟩; have n0_ := Aside0.mk (PAt.below HP.out.fr hb); have n1_ := Aside0.mk (Ch.then_below HC.out.fr hb); have nx_ := Aside0.mk ((hb.block _ (pcell (bx_dr HX.out)).2.2).trans (bx_dr HX.out)); clear HP HC hb; have HP := n0_; have HC := n1_; clear n0_ n1_; (try clear HX); have HX := nx_; clear nx_; obtain ⟨bx1, bxf, bx3⟩ := pcell HX.out; have y0 : w1.cell? ⟨wr.heap.size, 0, none⟩ = some (.string ⟨#[101, 120, 116, 101, 110, 100]⟩) := bx1 0 _ rfl; have y1 : w1.cell? ⟨wr.heap.size, 1, none⟩ = some (Value.nilFunc) := bx1 1 _ rfl; clear bx1 bxf))
    all_goals
     go_wp2
     go_roundg 3
     case measure => omega
     case rel => exact ⟨8, rfl, ⟨rfl⟩, ⟨fun j hj => by
      rcases Nat.lt_succ_iff_lt_or_eq.mp hj with h | rfl
      ·exact HW.out j h
      ·intro e; exact cc.out (Option.some.inj e).symm⟩, HP, HC⟩
  ·obtain ⟨gx1, gxf, gx3⟩ := pcell HTw.out
   have x0 : wr.cell? ⟨g, 16, none⟩ = some (.string ⟨#[101, 120, 116, 101, 110, 115, 105, 111, 110, 115]⟩) := gx1 16 _ rfl
   have x1 : wr.cell? ⟨g, 17, none⟩ = some (Value.nilFunc) := gx1 17 _ rfl
   clear gx1 gxf
   have HGb := Aside0.mk (show b < wr.heap.size ∧ X.B ≤ b ∧ W.heap.size ≤ wr.heap.size from ⟨HP.out.lt, HP.out.ge, HC.out.size⟩)
   clear HG
   have HG := HGb
   by_cases c : (Pm.now X.e s).f2.toList = ([101, 120, 116, 101, 110, 115, 105, 111, 110, 115] : List UInt8)
   ·have cb : (([101, 120, 116, 101, 110, 115, 105, 111, 110, 115] : List UInt8) == (Pm.now X.e s).f2.toList) = true := beq_iff_eq.mpr c.symm
    have cc := Aside0.mk c
    clear c
    have HX := Aside0.mk (blk_new wr (.cells #[.string ⟨#[101, 120, 116, 101, 110, 115, 105, 111, 110, 115]⟩, Value.nilFunc] 90))
    go_wp2
    go_region_law ((go_simp; go_at_call 58; refine (now_calls b X s _ HP.out.fr).mono ?_; rintro e w1 ⟨rfl, hb⟩; have n0_ := Aside0.mk (PAt.below HP.out.fr hb); have n1_ := Aside0.mk (Ch.then_below HC.out.fr hb); have nx_ := Aside0.mk ((hb.block _ (pcell (bx_dr HX.out)).2.2).trans (bx_dr HX.out)); clear HP HC hb; have HP := n0_; have HC := n1_; clear n0_ n1_; (try clear HX); have HX := nx_; clear nx_; obtain ⟨bx1, bxf, bx3⟩ := pcell HX.out; have y0 : w1.cell? ⟨wr.heap.size, 0, none⟩ = some (.string ⟨#[101, 120, 116, 101, 110, 115, 105, 111, 110, 115]⟩) := bx1 0 _ rfl; have y1 : w1.cell? ⟨wr.heap.size, 1, none⟩ = some (Value.nilFunc) := bx1 1 _ rfl; clear bx1 bxf))
    all_goals
     go_wp2_with fail
     refine (fail_calls b X 52 s _ HP.out.fr).mono ?_
     rintro e w2 ⟨rfl, hb⟩
     exact ⟨rfl, HNil.out (by first | exact Or.inl cc.out | exact Or.inr (Or.inl cc.out) | exact Or.inr (Or.inr (Or.inl cc.out)) | exact Or.inr (Or.inr (Or.inr (Or.inl cc.out))) | exact Or.inr (Or.inr (Or.inr (Or.inr (cc.out))))) _ (Ch.then_below HC.out.fr hb)⟩
   ·have cb : (([101, 120, 116, 101, 110, 115, 105, 111, 110, 115] : List UInt8) == (Pm.now X.e s).f2.toList) = false := beq_eq_false_iff_ne.mpr (fun e => c e.symm)
    have cc := Aside0.mk c
    clear c
    have HX := Aside0.mk (blk_new wr (.cells #[.string ⟨#[101, 120, 116, 101, 110, 115, 105, 111, 110, 115]⟩, Value.nilFunc] 90))
    obtain rfl : gk = 3 := by have := HK1.out; omega
    go_wp2
    go_region_law ((go_simp; go_at_call 58; refine (now_calls b X s _ HP.out.fr).mono ?_; rintro e w1 ⟨rfl, hb⟩; have n0_ := Aside0.mk (PAt.below HP.out.fr hb); have n1_ := Aside0.mk (Ch.then_below HC.out.fr hb); have nx_ := Aside0.mk ((hb.block _ (pcell (bx_dr HX.out)).2.2).trans (bx_dr HX.out)); clear HP HC hb; have HP := n0_; have HC := n1_; clear n0_ n1_; (try clear HX); have HX := nx_; clear nx_; obtain ⟨bx1, bxf, bx3⟩ := pcell HX.out; have y0 : w1.cell? ⟨wr.heap.size, 0, none⟩ = some (.string ⟨#[101, 120, 116, 101, 110, 115, 105, 111, 110, 115]⟩) := bx1 0 _ rfl; have y1 : w1.cell? ⟨wr.heap.size, 1, none⟩ = some (Value.nilFunc) := bx1 1 _ rfl; clear bx1 bxf))
    all_goals
     go_wp2
     go_roundg 2
     case measure => omega
     case rel => exact ⟨9, rfl, ⟨rfl⟩, ⟨fun j hj => by
      rcases Nat.lt_succ_iff_lt_or_eq.mp hj with h | rfl
      ·exact HW.out j h
      ·intro e; exact cc.out (Option.some.inj e).symm⟩, HP, HC⟩
  ·obtain ⟨gx1, gxf, gx3⟩ := pcell HTw.out
   have x0 : wr.cell? ⟨g, 18, none⟩ = some (.string ⟨#[103, 114, 111, 117, 112]⟩) := gx1 18 _ rfl
   have x1 : wr.cell? ⟨g, 19, none⟩ = some (Value.nilFunc) := gx1 19 _ rfl
   clear gx1 gxf
   have HGb := Aside0.mk (show b < wr.heap.size ∧ X.B ≤ b ∧ W.heap.size ≤ wr.heap.size from ⟨HP.out.lt, HP.out.ge, HC.out.size⟩)
   clear HG
   have HG := HGb
   by_cases c : (Pm.now X.e s).f2.toList = ([103, 114, 111, 117, 112] : List UInt8)
   ·have cb : (([103, 114, 111, 117, 112] : List UInt8) == (Pm.now X.e s).f2.toList) = true := beq_iff_eq.mpr c.symm
    have cc := Aside0.mk c
    clear c
    have HX := Aside0.mk (blk_new wr (.cells #[.string ⟨#[103, 114, 111, 117, 112]⟩, Value.nilFunc] 90))
    go_wp2
    go_region_law ((go_simp; go_at_call 58; refine (now_calls b X s _ HP.out.fr).mono ?_; rintro e w1 ⟨rfl, hb⟩; have n0_ := Aside0.mk (PAt.below HP.out.fr hb); have n1_ := Aside0.mk (Ch.then_below HC.out.fr hb); have nx_ := Aside0.mk ((hb.block _ (pcell (bx_dr HX.out)).2.2).trans (bx_dr HX.out)); clear HP HC hb; have HP := n0_; have HC := n1_; clear n0_ n1_; (try clear HX); have HX := nx_; clear nx_; obtain ⟨bx1, bxf, bx3⟩ := pcell HX.out; have y0 : w1.cell? ⟨wr.heap.size, 0, none⟩ = some (.string ⟨#[103, 114, 111, 117, 112]⟩) := bx1 0 _ rfl; have y1 : w1.cell? ⟨wr.heap.size, 1, none⟩ = some (Value.nilFunc) := bx1 1 _ rfl; clear bx1 bxf))
    all_goals
     go_wp2_with fail
     refine (fail_calls b X 52 s _ HP.out.fr).mono ?_
     rintro e w2 ⟨rfl, hb⟩
     exact ⟨rfl, HNil.out (by first | exact Or.inl cc.out | exact Or.inr (Or.inl cc.out) | exact Or.inr (Or.inr (Or.inl cc.out)) | exact Or.inr (Or.inr (Or.inr (Or.inl cc.out))) | exact Or.inr (Or.inr (Or.inr (Or.inr (cc.out))))) _ (Ch.then_below HC.out.fr hb)⟩
   ·have cb : (([103, 114, 111, 117, 112] : List UInt8) == (Pm.now X.e s).f2.toList) = false := beq_eq_false_iff_ne.mpr (fun e => c e.symm)
    have cc := Aside0.mk c
    clear c
    have HX := Aside0.mk (blk_new wr (.cells #[.string ⟨#[103, 114, 111, 117, 112]⟩, Value.nilFunc] 90))
    obtain rfl : gk = 2 := by have := HK1.out; omega
    go_wp2
    go_region_law ((go_simp; go_at_call 58; refine (now_calls b X s _ HP.out.fr).mono ?_; rintro e w1 ⟨rfl, hb⟩; have n0_ := Aside0.mk (PAt.below HP.out.fr hb); have n1_ := Aside0.mk (Ch.then_below HC.out.fr hb); have nx_ := Aside0.mk ((hb.block _ (pcell (bx_dr HX.out)).2.2).trans (bx_dr HX.out)); clear HP HC hb; have HP := n0_; have HC := n1_; clear n0_ n1_; (try clear HX); have HX := nx_; clear nx_; obtain ⟨bx1, bxf, bx3⟩ := pcell HX.out; have y0 : w1.cell? ⟨wr.heap.size, 0, none⟩ = some (.string ⟨#[103, 114, 111, 117, 112]⟩) := bx1 0 _ rfl; have y1 : w1.cell? ⟨wr.heap.size, 1, none⟩ = some (Value.nilFunc) := bx1 1 _ rfl; clear bx1 bxf))
    all_goals
     go_wp2
     go_roundg 1
     case measure => omega
     case rel => exact ⟨10, rfl, ⟨rfl⟩, ⟨fun j hj => by
      rcases Nat.lt_succ_iff_lt_or_eq.mp hj with h | rfl
      ·exact HW.out j h
      ·intro e; exact cc.out (Option.some.inj e).symm⟩, HP, HC⟩
  ·obtain ⟨gx1, gxf, gx3⟩ := pcell HTw.out
   have x0 : wr.cell? ⟨g, 20, none⟩ = some (.string ⟨#[114, 101, 113, 117, 105, 114, 101, 100]⟩) := gx1 20 _ rfl
   have x1 : wr.cell? ⟨g, 21, none⟩ = some (Value.nilFunc) := gx1 21 _ rfl
   clear gx1 gxf
   have HGb := Aside0.mk (show b < wr.heap.size ∧ X.B ≤ b ∧ W.heap.size ≤ wr.heap.size from ⟨HP.out.lt, HP.out.ge, HC.out.size⟩)
   clear HG
   have HG := HGb
   by_cases c : (Pm.now X.e s).f2.toList = ([114, 101, 113, 117, 105, 114, 101, 100] : List UInt8)
   ·have cb : (([114, 101, 113, 117, 105, 114, 101, 100] : List UInt8) == (Pm.now X.e s).f2.toList) = true := beq_iff_eq.mpr c.symm
    have cc := Aside0.mk c
    clear c
    have HX := Aside0.mk (blk_new wr (.cells #[.string ⟨#[114, 101, 113, 117, 105, 114, 101, 100]⟩, Value.nilFunc] 90))
    go_wp2
    go_region_law ((go_simp; go_at_call 58; refine (now_calls b X s _ HP.out.fr).mono ?_; rintro e w1 ⟨rfl, hb⟩; have n0_ := Aside0.mk (PAt.below HP.out.fr hb); have n1_ := Aside0.mk (Ch.then_below HC.out.fr hb); have nx_ := Aside0.mk ((hb.block _ (pcell (bx_dr HX.out)).2.2).trans (bx_dr HX.out)); clear HP HC hb; have HP := n0_; have HC := n1_; clear n0_ n1_; (try clear HX); have HX := nx_; clear nx_; obtain ⟨bx1, bxf, bx3⟩ := pcell HX.out; have y0 : w1.cell? ⟨wr.heap.size, 0, none⟩ = some (.string ⟨#[114, 101, 113, 117, 105, 114, 101, 100]⟩) := bx1 0 _ rfl; have y1 : w1.cell? ⟨wr.heap.size, 1, none⟩ = some (Value.nilFunc) := bx1 1 _ rfl; clear bx1 bxf))
    all_goals
     go_wp2_with fail
     refine (fail_calls b X 52 s _ HP.out.fr).mono ?_
     rintro e w2 ⟨rfl, hb⟩
     exact ⟨rfl, HNil.out (by first | exact Or.inl cc.out | exact Or.inr (Or.inl cc.out) | exact Or.inr (Or.inr (Or.inl cc.out)) | exact Or.inr (Or.inr (Or.inr (Or.inl cc.out))) | exact Or.inr (Or.inr (Or.inr (Or.inr (cc.out))))) _ (Ch.then_below HC.out.fr hb)⟩
   ·have cb : (([114, 101, 113, 117, 105, 114, 101, 100] : List UInt8) == (Pm.now X.e s).f2.toList) = false := beq_eq_false_iff_ne.mpr (fun e => c e.symm)
    have cc := Aside0.mk c
    clear c
    have HX := Aside0.mk (blk_new wr (.cells #[.string ⟨#[114, 101, 113, 117, 105, 114, 101, 100]⟩, Value.nilFunc] 90))
    obtain rfl : gk = 1 := by have := HK1.out; omega
    go_wp2
    go_region_law ((go_simp; go_at_call 58; refine (now_calls b X s _ HP.out.fr).mono ?_; rintro e w1 ⟨rfl, hb⟩; have n0_ := Aside0.mk (PAt.below HP.out.fr hb); have n1_ := Aside0.mk (Ch.then_below HC.out.fr hb); have nx_ := Aside0.mk ((hb.block _ (pcell (bx_dr HX.out)).2.2).trans (bx_dr HX.out)); clear HP HC hb; have HP := n0_; have HC := n1_; clear n0_ n1_; (try clear HX); have HX := nx_; clear nx_; obtain ⟨bx1, bxf, bx3⟩ := pcell HX.out; have y0 : w1.cell? ⟨wr.heap.size, 0, none⟩ = some (.string ⟨#[114, 101, 113, 117, 105, 114, 101, 100]⟩) := bx1 0 _ rfl; have y1 : w1.cell? ⟨wr.heap.size, 1, none⟩ = some (Value.nilFunc) := bx1 1 _ rfl; clear bx1 bxf))
    all_goals
     go_wp2
     go_roundg 0
     case measure => omega
     case rel => exact ⟨11, rfl, ⟨rfl⟩, ⟨fun j hj => by
      rcases Nat.lt_succ_iff_lt_or_eq.mp hj with h | rfl
      ·exact HW.out j h
      ·intro e; exact cc.out (Option.some.inj e).symm⟩, HP, HC⟩
  ·clear HG
   go_wp2
   refine HMiss.out (fun w hw e => ?_) _ HP.out HC.out
   obtain ⟨j, hj, rfl⟩ := List.mem_iff_getElem.mp hw
   exact HW.out j hj ((List.getElem?_eq_getElem hj).trans (congrArg some e))
def tabT : Array Value := #[.string ⟨#[112, 97, 99, 107, 97, 103, 101]⟩, .func (.func 39) #[] #[], .string ⟨#[105, 109, 112, 111, 114, 116]⟩, .func (.func 40) #[] #[], .string ⟨#[109, 101, 115, 115, 97, 103, 101]⟩, .func (.func 41) #[] #[], .string ⟨#[101, 110, 117, 109]⟩, .func (.func 43) #[] #[], .string ⟨#[111, 112, 116, 105, 111, 110]⟩, Value.nilFunc, .string ⟨#[115, 101, 114, 118, 105, 99, 101]⟩, Value.nilFunc, .string ⟨#[101, 120, 116, 101, 110, 100]⟩, Value.nilFunc]
def wordsT : List (List UInt8) := [[112, 97, 99, 107, 97, 103, 101], [105, 109, 112, 111, 114, 116], [109, 101, 115, 115, 97, 103, 101], [101, 110, 117, 109], [111, 112, 116, 105, 111, 110], [115, 101, 114, 118, 105, 99, 101], [101, 120, 116, 101, 110, 100]]
set_option maxHeartbeats 4000000 in
set_option maxRecDepth 100000 in
theorem startedT_calls (b g : Nat) (X : PFix) (s : PS) (pin : Value) (Q : Ending → World → Prop) (W : World) (h : PAt b X W s) (hg : W.heap[g]? = some (.cells tabT 83 (0, 0))) (hgb : g ≠ b)
  (hmiss : (∀ w ∈ wordsT, w ≠ (Pm.now X.e s).f2.toList) → ∀ w', PAt b X w' s → Ch (· = b) W w' → Q (.returned (.bool false)) w')
  (h0 : (Pm.now X.e s).f2.toList = ([112, 97, 99, 107, 97, 103, 101] : List UInt8) → ∀ w, PAt b X w s → Ch (· = b) W w → Calls Tryd.prog 39 #[.pointer (some ⟨b, 0, none⟩), pin] w (fun e w' => (e = .returned (.tuple #[]) ∧ Q (.returned (.bool true)) w') ∨ (∃ v, e = .panicked v ∧ Q e w')))
  (h1 : (Pm.now X.e s).f2.toList = ([105, 109, 112, 111, 114, 116] : List UInt8) → ∀ w, PAt b X w s → Ch (· = b) W w → Calls Tryd.prog 40 #[.pointer (some ⟨b, 0, none⟩), pin] w (fun e w' => (e = .returned (.tuple #[]) ∧ Q (.returned (.bool true)) w') ∨ (∃ v, e = .panicked v ∧ Q e w')))
  (h2 : (Pm.now X.e s).f2.toList = ([109, 101, 115, 115, 97, 103, 101] : List UInt8) → ∀ w, PAt b X w s → Ch (· = b) W w → Calls Tryd.prog 41 #[.pointer (some ⟨b, 0, none⟩), pin] w (fun e w' => (e = .returned (.tuple #[]) ∧ Q (.returned (.bool true)) w') ∨ (∃ v, e = .panicked v ∧ Q e w')))
  (h3 : (Pm.now X.e s).f2.toList = ([101, 110, 117, 109] : List UInt8) → ∀ w, PAt b X w s → Ch (· = b) W w → Calls Tryd.prog 43 #[.pointer (some ⟨b, 0, none⟩), pin] w (fun e w' => (e = .returned (.tuple #[]) ∧ Q (.returned (.bool true)) w') ∨ (∃ v, e = .panicked v ∧ Q e w')))
  (hnil : (Pm.now X.e s).f2.toList = ([111, 112, 116, 105, 111, 110] : List UInt8) ∨ (Pm.now X.e s).f2.toList = ([115, 101, 114, 118, 105, 99, 101] : List UInt8) ∨ (Pm.now X.e s).f2.toList = ([101, 120, 116, 101, 110, 100] : List UInt8) → ∀ w', Ch (· = b) W w' → Q (thrown 52 (Pm.now X.e s).f1) w') :
  Calls Tryd.prog 59 #[.pointer (some ⟨b, 0, none⟩), .slice (some ⟨g, 0, none⟩) 7 7, pin] W Q := by
 have HP := Aside0.mk h
 have HC := Aside0.mk (Ch.refl (· = b) W)
 have HG := Aside0.mk True.intro
 have HT := Aside0.mk hg
 have HB := Aside0.mk hgb
 have HMiss := Aside0.mk hmiss
 have HNil := Aside0.mk hnil
 have H0 := Aside0.mk h0
 have H1 := Aside0.mk h1
 have H2 := Aside0.mk h2
 have H3 := Aside0.mk h3
 clear h hg hgb hmiss hnil h0 h1 h2 h3
 have hf := fld2
 have hq1 : ∀ (f : Fn) (w : World), (binOp .eql 80 (.func f #[] #[]) .nilFunc).run Tryd.prog w = .ok (.bool false) w := fun f w => by kernel_rfl
 have hq2 : ∀ (w : World), (binOp .eql 80 .nilFunc .nilFunc).run Tryd.prog w = .ok (.bool true) w := fun w => by kernel_rfl
 go_enter Tryd.func59, Tryd.ntmps59
 go_wp2
 go_loopg [11] 7 (fun kq v11 w' => ∃ i : Nat, v11 = .int .i64 (i : Int) ∧ Aside0 (kq + i = 7) ∧ Aside0 (∀ j, j < i → wordsT[j]? ≠ some (Pm.now X.e s).f2.toList) ∧ Aside0 (PAt b X w' s) ∧ Aside0 (Ch (· = b) W w'))
 case atStart => exact ⟨0, rfl, ⟨rfl⟩, ⟨fun j hj => absurd hj (Nat.not_lt_zero _)⟩, HP, HC⟩
 case round =>
  clear HP HC
  obtain ⟨i, rfl, HK1, HW, HP, HC⟩ := hrel
  have hi : i = 0 ∨ i = 1 ∨ i = 2 ∨ i = 3 ∨ i = 4 ∨ i = 5 ∨ i = 6 ∨ i = 7 := by have := HK1.out; omega
  have HTw := Aside0.mk ((HC.out.block g (Array.getElem?_eq_some_iff.1 HT.out).1 HB.out).trans HT.out)
  rcases hi with rfl | rfl | rfl | rfl | rfl | rfl | rfl | rfl
  ·obtain ⟨gx1, gxf, gx3⟩ := pcell HTw.out
   have x0 : wr.cell? ⟨g, 0, none⟩ = some (.string ⟨#[112, 97, 99, 107, 97, 103, 101]⟩) := gx1 0 _ rfl
   have x1 : wr.cell? ⟨g, 1, none⟩ = some (.func (.func 39) #[] #[]) := gx1 1 _ rfl
   clear gx1 gxf
   have HGb := Aside0.mk (show b < wr.heap.size ∧ X.B ≤ b ∧ W.heap.size ≤ wr.heap.size from ⟨HP.out.lt, HP.out.ge, HC.out.size⟩)
   clear HG
   have HG := HGb
   by_cases c : (Pm.now X.e s).f2.toList = ([112, 97, 99, 107, 97, 103, 101] : List UInt8)
   ·have cb : (([112, 97, 99, 107, 97, 103, 101] : List UInt8) == (Pm.now X.e s).f2.toList) = true := beq_iff_eq.mpr c.symm
    have cc := Aside0.mk c
    clear c
    have HX := Aside0.mk (blk_new wr (.cells #[.string ⟨#[112, 97, 99, 107, 97, 103, 101]⟩, .func (.func 39) #[] #[]] 83))
    go_wp2
    go_region_law ((go_simp; go_at_call 58; refine (now_calls b X s _ HP.out.fr).mono ?_; rintro e w1 ⟨rfl, hb⟩; have n0_ := Aside0.mk (PAt.below HP.out.fr hb); have n1_ := Aside0.mk (Ch.then_below HC.out.fr hb); have nx_ := Aside0.mk ((hb.block _ (pcell (bx_dr HX.out)).2.2).trans (bx_dr HX.out)); clear HP HC hb; have HP := n0_; have HC := n1_; clear n0_ n1_; (try clear HX); have HX := nx_; clear nx_; obtain ⟨bx1, bxf, bx3⟩ := pcell HX.out; have y0 : w1.cell? ⟨wr.heap.size, 0, none⟩ = some (.string ⟨#[112, 97, 99, 107, 97, 103, 101]⟩) := bx1 0 _ rfl; have y1 : w1.cell? ⟨wr.heap.size, 1, none⟩ = some (.func (.func 39) #[] #[]) := bx1 1 _ rfl; clear bx1 bxf))
    all_goals
     go_wp2_with fail
     refine (H0.out cc.out _ HP.out.fr HC.out.fr).mono ?_
     rintro e w2 (⟨rfl, hq⟩ | ⟨v, rfl, hq⟩)
     ·have HQ := Aside0.mk hq
      clear hq
      go_wp2
      exact HQ.out
     ·exact ⟨rfl, hq⟩
   ·have cb : (([112, 97, 99, 107, 97, 103, 101] : List UInt8) == (Pm.now X.e s).f2.toList) = false := beq_eq_false_iff_ne.mpr (fun e => c e.symm)
    have cc := Aside0.mk c
    clear c
    have HX := Aside0.mk (blk_new wr (.cells #[.string ⟨#[112, 97, 99, 107, 97, 103, 101]⟩, .func (.func 39) #[] #[]] 83))
    obtain rfl : gk = 7 := by have := HK1.out; omega
    go_wp2
    go_region_law ((go_simp; go_at_call 58; refine (now_calls b X s _ HP.out.fr).mono ?_; rintro e w1 ⟨rfl, hb⟩; have n0_ := Aside0.mk (PAt.below HP.out.fr hb); have n1_ := Aside0.mk (Ch.then_below HC.out.fr hb); have nx_ := Aside0.mk ((hb.block _ (pcell (bx_dr HX.out)).2.2).trans (bx_dr HX.out)); clear HP HC hb; have HP := n0_; have HC := n1_; clear n0_ n1_; (try clear HX); have HX := nx_; clear nx_; obtain ⟨bx1, bxf, bx3⟩ := pcell HX.out; have y0 : w1.cell? ⟨wr.heap.size, 0, none⟩ = some (.string ⟨#[112, 97, 99, 107, 97, 103, 101]⟩) := bx1 0 _ rfl; have y1 : w1.cell? ⟨wr.heap.size, 1, none⟩ = some (.func (.func 39) #[] #[]) := bx1 1 _ rfl; clear bx1 bxf))
    all_goals
     go_wp2
     go_roundg 6
     case measure => omega
     case rel => exact ⟨1, rfl, ⟨rfl⟩, ⟨fun j hj => by
      rcases Nat.lt_succ_iff_lt_or_eq.mp hj with h | rfl
      ·exact HW.out j h
      ·intro e; exact cc.out (Option.some.inj e).symm⟩, HP, HC⟩
  ·obtain ⟨gx1, gxf, gx3⟩ := pcell HTw.out
   have x0 : wr.cell? ⟨g, 2, none⟩ = some (.string ⟨#[105, 109, 112, 111, 114, 116]⟩) := gx1 2 _ rfl
   have x1 : wr.cell? ⟨g, 3, none⟩ = some (.func (.func 40) #[] #[]) := gx1 3 _ rfl
   clear gx1 gxf
   have HGb := Aside0.mk (show b < wr.heap.size ∧ X.B ≤ b ∧ W.heap.size ≤ wr.heap.size from ⟨HP.out.lt, HP.out.ge, HC.out.size⟩)
   clear HG
   have HG := HGb
   by_cases c : (Pm.now X.e s).f2.toList = ([105, 109, 112, 111, 114, 116] : List UInt8)
   ·have cb : (([105, 109, 112, 111, 114, 116] : List UInt8) == (Pm.now X.e s).f2.toList) = true := beq_iff_eq.mpr c.symm
    have cc := Aside0.mk c
    clear c
    have HX := Aside0.mk (blk_new wr (.cells #[.string ⟨#[105, 109, 112, 111, 114, 116]⟩, .func (.func 40) #[] #[]] 83))
    go_wp2
    go_region_law ((go_simp; go_at_call 58; refine (now_calls b X s _ HP.out.fr).mono ?_; rintro e w1 ⟨rfl, hb⟩; have n0_ := Aside0.mk (PAt.below HP.out.fr hb); have n1_ := Aside0.mk (Ch.then_below HC.out.fr hb); have nx_ := Aside0.mk ((hb.block _ (pcell (bx_dr HX.out)).2.2).trans (bx_dr HX.out)); clear HP HC hb; have HP := n0_; have HC := n1_; clear n0_ n1_; (try clear HX); have HX := nx_; clear nx_; obtain ⟨bx1, bxf, bx3⟩ := pcell HX.out; have y0 : w1.cell? ⟨wr.heap.size, 0, none⟩ = some (.string ⟨#[105, 109, 112, 111, 114, 116]⟩) := bx1 0 _ rfl; have y1 : w1.cell? ⟨wr.heap.size, 1, none⟩ = some (.func (.func 40) #[] #[]) := bx1 1 _ rfl; clear bx1 bxf))
    all_goals
     go_wp2_with fail
     refine (H1.out cc.out _ HP.out.fr HC.out.fr).mono ?_
     rintro e w2 (⟨rfl, hq⟩ | ⟨v, rfl, hq⟩)
     ·have HQ := Aside0.mk hq
      clear hq
      go_wp2
      exact HQ.out
     ·exact ⟨rfl, hq⟩
   ·have cb : (([105, 109, 112, 111, 114, 116] : List UInt8) == (Pm.now X.e s).f2.toList) = false := beq_eq_false_iff_ne.mpr (fun e => c e.symm)
    have cc := Aside0.mk c
    clear c
    have HX := Aside0.mk (blk_new wr (.cells #[.string ⟨#[105, 109, 112, 111, 114, 116]⟩, .func (.func 40) #[] #[]] 83))
    obtain rfl : gk = 6 := by have := HK1.out; omega
    go_wp2
    go_region_law ((go_simp; go_at_call 58; refine (now_calls b X s _ HP.out.fr).mono ?_; rintro e w1 ⟨rfl, hb⟩; have n0_ := Aside0.mk (PAt.below HP.out.fr hb); have n1_ := Aside0.mk (Ch.then_below HC.out.fr hb); have nx_ := Aside0.mk ((hb.block _ (pcell (bx_dr HX.out)).2.2).trans (bx_dr HX.out)); clear HP HC hb; have HP := n0_; have HC := n1_; clear n0_ n1_; (try clear HX); have HX := nx_; clear nx_; obtain ⟨bx1, bxf, bx3⟩ := pcell HX.out; have y0 : w1.cell? ⟨wr.heap.size, 0, none⟩ = some (.string ⟨#[105, 109, 112, 111, 114, 116]⟩) := bx1 0 _ rfl; have y1 : w1.cell? ⟨wr.heap.size, 1, none⟩ = some (.func (.func 40) #[] #[]) := bx1 1 _ rfl; clear bx1 bxf))
    all_goals
     go_wp2
     go_roundg 5
     case measure => omega
     case rel => exact ⟨2, rfl, ⟨rfl⟩, ⟨fun j hj => by
      rcases Nat.lt_succ_iff_lt_or_eq.mp hj with h | rfl
      ·exact HW.out j h
      ·intro e; exact cc.out (Option.some.inj e).symm⟩, HP, HC⟩
  ·obtain ⟨gx1, gxf, gx3⟩ := pcell HTw.out
   have x0 : wr.cell? ⟨g, 4, none⟩ = some (.string ⟨#[109, 101, 115, 115, 97, 103, 101]⟩) := gx1 4 _ rfl
   have x1 : wr.cell? ⟨g, 5, none⟩ = some (.func (.func 41) #[] #[]) := gx1 5 _ rfl
   clear gx1 gxf
   have HGb := Aside0.mk (show b < wr.heap.size ∧ X.B ≤ b ∧ W.heap.size ≤ wr.heap.size from ⟨HP.out.lt, HP.out.ge, HC.out.size⟩)
   clear HG
   have HG := HGb
   by_cases c : (Pm.now X.e s).f2.toList = ([109, 101, 115, 115, 97, 103, 101] : List UInt8)
   ·have cb : (([109, 101, 115, 115, 97, 103, 101] : List UInt8) == (Pm.now X.e s).f2.toList) = true := beq_iff_eq.mpr c.symm
    have cc := Aside0.mk c
    clear c
    have HX := Aside0.mk (blk_new wr (.cells #[.string ⟨#[109, 101, 115, 115, 97, 103, 101]⟩, .func (.func 41) #[] #[]] 83))
    go_wp2
    go_region_law ((go_simp; go_at_call 58; refine (now_calls b X s _ HP.out.fr).mono ?_; rintro e w1 ⟨rfl, hb⟩; have n0_ := Aside0.mk (PAt.below HP.out.fr hb); have n1_ := Aside0.mk (Ch.then_below HC.out.fr hb); have nx_ := Aside0.mk ((hb.block _ (pcell (bx_dr HX.out)).2.2).trans (bx_dr HX.out)); clear HP HC hb; have HP := n0_; have HC := n1_; clear n0_ n1_; (try clear HX); have HX := nx_; clear nx_; obtain ⟨bx1, bxf, bx3⟩ := pcell HX.out; have y0 : w1.cell? ⟨wr.heap.size, 0, none⟩ = some (.string ⟨#[109, 101, 115, 115, 97, 103, 101]⟩) := bx1 0 _ rfl; have y1 : w1.cell? ⟨wr.heap.size, 1, none⟩ = some (.func (.func 41) #[] #[]) := bx1 1 _ rfl; clear bx1 bxf))
    all_goals
     go_wp2_with fail
     refine (H2.out cc.out _ HP.out.fr HC.out.fr).mono ?_
     rintro e w2 (⟨rfl, hq⟩ | ⟨v, rfl, hq⟩)
     ·have HQ := Aside0.mk hq
      clear hq
      go_wp2
      exact HQ.out
     ·exact ⟨rfl, hq⟩
   ·have cb : (([109, 101, 115, 115, 97, 103, 101] : List UInt8) == (Pm.now X.e s).f2.toList) = false := beq_eq_false_iff_ne.mpr (fun e => c e.symm)
    have cc := Aside0.mk c
    clear c
    have HX := Aside0.mk (blk_new wr (.cells #[.string ⟨#[109, 101, 115, 115, 97, 103, 101]⟩, .func (.func 41) #[] #[]] 83))
    obtain rfl : gk = 5 := by have := HK1.out; omega
    go_wp2
    go_region_law ((go_simp; go_at_call 58; refine (now_calls b X s _ HP.out.fr).mono ?_; rintro e w1 ⟨rfl, hb⟩; have n0_ := Aside0.mk (PAt.below HP.out.fr hb); have n1_ := Aside0.mk (Ch.then_below HC.out.fr hb); have nx_ := Aside0.mk ((hb.block _ (pcell (bx_dr HX.out)).2.2).trans (bx_dr HX.out)); clear HP HC hb; have HP := n0_; have HC := n1_; clear n0_ n1_; (try clear HX); have HX := nx_; clear nx_; obtain ⟨bx1, bxf, bx3⟩ := pcell HX.out; have y0 : w1.cell? ⟨wr.heap.size, 0, none⟩ = some (.string ⟨#[109, 101, 115, 115, 97, 103, 101]⟩) := bx1 0 _ rfl; have y1 : w1.cell? ⟨wr.heap.size, 1, none⟩ = some (.func (.func 41) #[] #[]) := bx1 1 _ rfl; clear bx1 bxf))
    all_goals
     go_wp2
     go_roundg 4
     case measure => omega
     case rel => exact ⟨3, rfl, ⟨rfl⟩, ⟨fun j hj => by
      rcases Nat.lt_succ_iff_lt_or_eq.mp hj with h | rfl
      ·exact HW.out j h
      ·intro e; exact cc.out (Option.some.inj e).symm⟩, HP, HC⟩
  ·obtain ⟨gx1, gxf, gx3⟩ := pcell HTw.out
   have x0 : wr.cell? ⟨g, 6, none⟩ = some (.string ⟨#[101, 110, 117, 109]⟩) := gx1 6 _ rfl
   have x1 : wr.cell? ⟨g, 7, none⟩ = some (.func (.func 43) #[] #[]) := gx1 7 _ rfl
   clear gx1 gxf
   have HGb := Aside0.mk (show b < wr.heap.size ∧ X.B ≤ b ∧ W.heap.size ≤ wr.heap.size from ⟨HP.out.lt, HP.out.ge, HC.out.size⟩)
   clear HG
   have HG := HGb
   by_cases c : (Pm.now X.e s).f2.toList = ([101, 110, 117, 109] : List UInt8)
   ·have cb : (([101, 110, 117, 109] : List UInt8) == (Pm.now X.e s).f2.toList) = true := beq_iff_eq.mpr c.symm
    have cc := Aside0.mk c
    clear c
    have HX := Aside0.mk (blk_new wr (.cells #[.string ⟨#[101, 110, 117, 109]⟩, .func (.func 43) #[] #[]] 83))
    go_wp2
    go_region_law ((go_simp; go_at_call 58; refine (now_calls b X s _ HP.out.fr).mono ?_; rintro e w1 ⟨rfl, hb⟩; have n0_ := Aside0.mk (PAt.below HP.out.fr hb); have n1_ := Aside0.mk (Ch.then_below HC.out.fr hb); have nx_ := Aside0.mk ((hb.block _ (pcell (bx_dr HX.out)).2.2).trans (bx_dr HX.out)); clear HP HC hb; have HP := n0_; have HC := n1_; clear n0_ n1_; (try clear HX); have HX := nx_; clear nx_; obtain ⟨bx1, bxf, bx3⟩ := pcell HX.out; have y0 : w1.cell? ⟨wr.heap.size, 0, none⟩ = some (.string ⟨#[101, 110, 117, 109]⟩) := bx1 0 _ rfl; have y1 : w1.cell? ⟨wr.heap.size, 1, none⟩ = some (.func (.func 43) #[] #[]) := bx1 1 _ rfl; clear bx1 bxf))
    all_goals
     go_wp2_with fail
     refine (H3.out cc.out _ HP.out.fr HC.out.fr).mono ?_
     rintro e w2 (⟨rfl, hq⟩ | ⟨v, rfl, hq⟩)
     ·have HQ := Aside0.mk hq
      clear hq
      go_wp2
      exact HQ.out
     ·exact ⟨rfl, hq⟩
   ·have cb : (([101, 110, 117, 109] : List UInt8) == (Pm.now X.e s).f2.toList) = false := beq_eq_false_iff_ne.mpr (fun e => c e.symm)
    have cc := Aside0.mk c
    clear c
    have HX := Aside0.mk (blk_new wr (.cells #[.string ⟨#[101, 110, 117, 109]⟩, .func (.func 43) #[] #[]] 83))
    obtain rfl : gk = 4 := by have := HK1.out; omega
    go_wp2
    go_region_law ((go_simp; go_at_call 58; refine (now_calls b X s _ HP.out.fr).mono ?_; rintro e w1 ⟨rfl, hb⟩; have n0_ := Aside0.mk (PAt.below HP.out.fr hb); have n1_ := Aside0.mk (Ch.then_below HC.out.fr hb); have nx_ := Aside0.mk ((hb.block _ (pcell (bx_dr HX.out)).2.2).trans (bx_dr HX.out)); clear HP HC hb; have HP := n0_; have HC := n1_; clear n0_ n1_; (try clear HX); have HX := nx_; clear nx_; obtain ⟨bx1, bxf, bx3⟩ := pcell HX.out; have y0 : w1.cell? ⟨wr.heap.size, 0, none⟩ = some (.string ⟨#[101, 110, 117, 109]⟩) := bx1 0 _ rfl; have y1 : w1.cell? ⟨wr.heap.size, 1, none⟩ = some (.func (.func 43) #[] #[]) := bx1 1 _ rfl; clear bx1 bxf))
    all_goals
     go_wp2
     go_roundg 3
     case measure => omega
     case rel => exact ⟨4, rfl, ⟨rfl⟩, ⟨fun j hj => by
      rcases Nat.lt_succ_iff_lt_or_eq.mp hj with h | rfl
      ·exact HW.out j h
      ·intro e; exact cc.out (Option.some.inj e).symm⟩, HP, HC⟩
  ·obtain ⟨gx1, gxf, gx3⟩ := pcell HTw.out
   have x0 : wr.cell? ⟨g, 8, none⟩ = some (.string ⟨#[111, 112, 116, 105, 111, 110]⟩) := gx1 8 _ rfl
   have x1 : wr.cell? ⟨g, 9, none⟩ = some (Value.nilFunc) := gx1 9 _ rfl
   clear gx1 gxf
   have HGb := Aside0.mk (show b < wr.heap.size ∧ X.B ≤ b ∧ W.heap.size ≤ wr.heap.size from ⟨HP.out.lt, HP.out.ge, HC.out.size⟩)
   clear HG
   have HG := HGb
   by_cases c : (Pm.now X.e s).f2.toList = ([111, 112, 116, 105, 111, 110] : List UInt8)
   ·have cb : (([111, 112, 116, 105, 111, 110] : List UInt8) == (Pm.now X.e s).f2.toList) = true := beq_iff_eq.mpr c.symm
    have cc := Aside0.mk c
    clear c
    have HX := Aside0.mk (blk_new wr (.cells #[.string ⟨#[111, 112, 116, 105, 111, 110]⟩, Value.nilFunc] 83))
    go_wp2
    go_region_law ((go_simp; go_at_call 58; refine (now_calls b X s _ HP.out.fr).mono ?_; rintro e w1 ⟨rfl, hb⟩; have n0_ := Aside0.mk (PAt.below HP.out.fr hb); have n1_ := Aside0.mk (Ch.then_below HC.out.fr hb); have nx_ := Aside0.mk ((hb.block _ (pcell (bx_dr HX.out)).2.2).trans (bx_dr HX.out)); clear HP HC hb; have HP := n0_; have HC := n1_; clear n0_ n1_; (try clear HX); have HX := nx_; clear nx_; obtain ⟨bx1, bxf, bx3⟩ := pcell HX.out; have y0 : w1.cell? ⟨wr.heap.size, 0, none⟩ = some (.string ⟨#[111, 112, 116, 105, 111, 110]⟩) := bx1 0 _ rfl; have y1 : w1.cell? ⟨wr.heap.size, 1, none⟩ = some (Value.nilFunc) := bx1 1 _ rfl; clear bx1 bxf))
    all_goals
     go_wp2_with fail
     refine (fail_calls b X 52 s _ HP.out.fr).mono ?_
     rintro e w2 ⟨rfl, hb⟩
     exact ⟨rfl, HNil.out (by first | exact Or.inl cc.out | exact Or.inr (Or.inl cc.out) | exact Or.inr (Or.inr (cc.out))) _ (Ch.then_below HC.out.fr hb)⟩
   ·have cb : (([111, 112, 116, 105, 111, 110] : List UInt8) == (Pm.now X.e s).f2.toList) = false := beq_eq_false_iff_ne.mpr (fun e => c e.symm)
    have cc := Aside0.mk c
    clear c
    have HX := Aside0.mk (blk_new wr (.cells #[.string ⟨#[111, 112, 116, 105, 111, 110]⟩, Value.nilFunc] 83))
    obtain rfl : gk = 3 := by have := HK1.out; omega
    go_wp2
    go_region_law ((go_simp; go_at_call 58; refine (now_calls b X s _ HP.out.fr).mono ?_; rintro e w1 ⟨rfl, hb⟩; have n0_ := Aside0.mk (PAt.below HP.out.fr hb); have n1_ := Aside0.mk (Ch.then_below HC.out.fr hb); have nx_ := Aside0.mk ((hb.block _ (pcell (bx_dr HX.out)).2.2).trans (bx_dr HX.out)); clear HP HC hb; have HP := n0_; have HC := n1_; clear n0_ n1_; (try clear HX); have HX := nx_; clear nx_; obtain ⟨bx1, bxf, bx3⟩ := pcell HX.out; have y0 : w1.cell? ⟨wr.heap.size, 0, none⟩ = some (.string ⟨#[111, 112, 116, 105, 111, 110]⟩) := bx1 0 _ rfl; have y1 : w1.cell? ⟨wr.heap.size, 1, none⟩ = some (Value.nilFunc) := bx1 1 _ rfl; clear bx1 bxf))
    all_goals
     go_wp2
     go_roundg 2
     case measure => omega
     case rel => exact ⟨5, rfl, ⟨rfl⟩, ⟨fun j hj => by
      rcases Nat.lt_succ_iff_lt_or_eq.mp hj with h | rfl
      ·exact HW.out j h
      ·intro e; exact cc.out (Option.some.inj e).symm⟩, HP, HC⟩
  ·obtain ⟨gx1, gxf, gx3⟩ := pcell HTw.out
   have x0 : wr.cell? ⟨g, 10, none⟩ = some (.string ⟨#[115, 101, 114, 118, 105, 99, 101]⟩) := gx1 10 _ rfl
   have x1 : wr.cell? ⟨g, 11, none⟩ = some (Value.nilFunc) := gx1 11 _ rfl
   clear gx1 gxf
   have HGb := Aside0.mk (show b < wr.heap.size ∧ X.B ≤ b ∧ W.heap.size ≤ wr.heap.size from ⟨HP.out.lt, HP.out.ge, HC.out.size⟩)
   clear HG
   have HG := HGb
   by_cases c : (Pm.now X.e s).f2.toList = ([115, 101, 114, 118, 105, 99, 101] : List UInt8)
   ·have cb : (([115, 101, 114, 118, 105, 99, 101] : List UInt8) == (Pm.now X.e s).f2.toList) = true := beq_iff_eq.mpr c.symm
    have cc := Aside0.mk c
    clear c
    have HX := Aside0.mk (blk_new wr (.cells #[.string ⟨#[115, 101, 114, 118, 105, 99, 101]⟩, Value.nilFunc] 83))
    go_wp2
    go_region_law ((go_simp; go_at_call 58; refine (now_calls b X s _ HP.out.fr).mono ?_; rintro e w1 ⟨rfl, hb⟩; have n0_ := Aside0.mk (PAt.below HP.out.fr hb); have n1_ := Aside0.mk (Ch.then_below HC.out.fr hb); have nx_ := Aside0.mk ((hb.block _ (pcell (bx_dr HX.out)).2.2).trans (bx_dr HX.out)); clear HP HC hb; have HP := n0_; have HC := n1_; clear n0_ n1_; (try clear HX); have HX := nx_; clear nx_; obtain ⟨bx1, bxf, bx3⟩ := pcell HX.out; have y0 : w1.cell? ⟨wr.heap.size, 0, none⟩ = some (.string ⟨#[115, 101, 114, 118, 105, 99, 101]⟩) := bx1 0 _ rfl; have y1 : w1.cell? ⟨wr.heap.size, 1, none⟩ = some (Value.nilFunc) := bx1 1 _ rfl; clear bx1 bxf))
    all_goals
     go_wp2_with fail
     refine (fail_calls b X 52 s _ HP.out.fr).mono ?_
     rintro e w2 ⟨rfl, hb⟩
     exact ⟨rfl, HNil.out (by first | exact Or.inl cc.out | exact Or.inr (Or.inl cc.out) | exact Or.inr (Or.inr (cc.out))) _ (Ch.then_below HC.out.fr hb)⟩
   ·have cb : (([115, 101, 114, 118, 105, 99, 101] : List UInt8) == (Pm.now X.e s).f2.toList) = false := beq_eq_false_iff_ne.mpr (fun e => c e.symm)
    have cc := Aside0.mk c
    clear c
    have HX := Aside0.mk (blk_new wr (.cells #[.string ⟨#[115, 101, 114, 118, 105, 99, 101]⟩, Value.nilFunc] 83))
    obtain rfl : gk = 2 := by have := HK1.out; omega
    go_wp2
    go_region_law ((go_simp; go_at_call 58; refine (now_calls b X s _ HP.out.fr).mono ?_; rintro e w1 ⟨rfl, hb⟩; have n0_ := Aside0.mk (PAt.below HP.out.fr hb); have n1_ := Aside0.mk (Ch.then_below HC.out.fr hb); have nx_ := Aside0.mk ((hb.block _ (pcell (bx_dr HX.out)).2.2).trans (bx_dr HX.out)); clear HP HC hb; have HP := n0_; have HC := n1_; clear n0_ n1_; (try clear HX); have HX := nx_; clear nx_; obtain ⟨bx1, bxf, bx3⟩ := pcell HX.out; have y0 : w1.cell? ⟨wr.heap.size, 0, none⟩ = some (.string ⟨#[115, 101, 114, 118, 105, 99, 101]⟩) := bx1 0 _ rfl; have y1 : w1.cell? ⟨wr.heap.size, 1, none⟩ = some (Value.nilFunc) := bx1 1 _ rfl; clear bx1 bxf))
    all_goals
     go_wp2
     go_roundg 1
     case measure => omega
     case rel => exact ⟨6, rfl, ⟨rfl⟩, ⟨fun j hj => by
      rcases Nat.lt_succ_iff_lt_or_eq.mp hj with h | rfl
      ·exact HW.out j h
      ·intro e; exact cc.out (Option.some.inj e).symm⟩, HP, HC⟩
  ·obtain ⟨gx1, gxf, gx3⟩ := pcell HTw.out
   have x0 : wr.cell? ⟨g, 12, none⟩ = some (.string ⟨#[101, 120, 116, 101, 110, 100]⟩) := gx1 12 _ rfl
   have x1 : wr.cell? ⟨g, 13, none⟩ = some (Value.nilFunc) := gx1 13 _ rfl
   clear gx1 gxf
   have HGb := Aside0.mk (show b < wr.heap.size ∧ X.B ≤ b ∧ W.heap.size ≤ wr.heap.size from ⟨HP.out.lt, HP.out.ge, HC.out.size⟩)
   clear HG
   have HG := HGb
   by_cases c : (Pm.now X.e s).f2.toList = ([101, 120, 116, 101, 110, 100] : List UInt8)
   ·have cb : (([101, 120, 116, 101, 110, 100] : List UInt8) == (Pm.now X.e s).f2.toList) = true := beq_iff_eq.mpr c.symm
    have cc := Aside0.mk c
    clear c
    have HX := Aside0.mk (blk_new wr (.cells #[.string ⟨#[101, 120, 116, 101, 110, 100]⟩, Value.nilFunc] 83))
    go_wp2
    go_region_law ((go_simp; go_at_call 58; refine (now_calls b X s _ HP.out.fr).mono ?_; rintro e w1 ⟨rfl, hb⟩; have n0_ := Aside0.mk (PAt.below HP.out.fr hb); have n1_ := Aside0.mk (Ch.then_below HC.out.fr hb); have nx_ := Aside0.mk ((hb.block _ (pcell (bx_dr HX.out)).2.2).trans (bx_dr HX.out)); clear HP HC hb; have HP := n0_; have HC := n1_; clear n0_ n1_; (try clear HX); have HX := nx_; clear nx_; obtain ⟨bx1, bxf, bx3⟩ := pcell HX.out; have y0 : w1.cell? ⟨wr.heap.size, 0, none⟩ = some (.string ⟨#[101, 120, 116, 101, 110, 100]⟩) := bx1 0 _ rfl; have y1 : w1.cell? ⟨wr.heap.size, 1, none⟩ = some (Value.nilFunc) := bx1 1 _ rfl; clear bx1 bxf))
    all_goals
     go_wp2_with fail
     refine (fail_calls b X 52 s _ HP.out.fr).mono ?_
     rintro e w2 ⟨rfl, hb⟩
     exact ⟨rfl, HNil.out (by first | exact Or.inl cc.out | exact Or.inr (Or.inl cc.out) | exact Or.inr (Or.inr (cc.out))) _ (Ch.then_below HC.out.fr hb)⟩
   ·have cb : (([101, 120, 116, 101, 110, 100] : List UInt8) == (Pm.now X.e s).f2.toList) = false := beq_eq_false_iff_ne.mpr (fun e => c e.symm)
    have cc := Aside0.mk c
    clear c
    have HX := Aside0.mk (blk_new wr (.cells #[.string ⟨#[101, 120, 116, 101, 110, 100]⟩, Value.nilFunc] 83))
    obtain rfl : gk = 1 := by have := HK1.out; omega
    go_wp2
    go_region_law ((go_simp; go_at_call 58; refine (now_calls b X s _ HP.out.fr).mono ?_; rintro e w1 ⟨rfl, hb⟩; have n0_ := Aside0.mk (PAt.below HP.out.fr hb); have n1_ := Aside0.mk (Ch.then_below HC.out.fr hb); have nx_ := Aside0.mk ((hb.block _ (pcell (bx_dr HX.out)).2.2).trans (bx_dr HX.out)); clear HP HC hb; have HP := n0_; have HC := n1_; clear n0_ n1_; (try clear HX); have HX := nx_; clear nx_; obtain ⟨bx1, bxf, bx3⟩ := pcell HX.out; have y0 : w1.cell? ⟨wr.heap.size, 0, none⟩ = some (.string ⟨#[101, 120, 116, 101, 110, 100]⟩) := bx1 0 _ rfl; have y1 : w1.cell? ⟨wr.heap.size, 1, none⟩ = some (Value.nilFunc) := bx1 1 _ rfl; clear bx1 bxf))
    all_goals
     go_wp2
     go_roundg 0
     case measure => omega
     case rel => exact ⟨7, rfl, ⟨rfl⟩, ⟨fun j hj => by
      rcases Nat.lt_succ_iff_lt_or_eq.mp hj with h | rfl
      ·exact HW.out j h
      ·intro e; exact cc.out (Option.some.inj e).symm⟩, HP, HC⟩
  ·clear HG
   go_wp2
   refine HMiss.out (fun w hw e => ?_) _ HP.out HC.out
   obtain ⟨j, hj, rfl⟩ := List.mem_iff_getElem.mp hw
   exact HW.out j hj ((List.getElem?_eq_getElem hj).trans (congrArg some e))
theorem row_ti {t : TB} {W : World} {vr0 vg0 : Value} {w : World} {rows : List PRange} {gone : List ByteArray} (h : TI t W vr0 vg0 w rows gone) :
  ∃ vr vg, w.heap[t.bm]? = some (.cells ((t.cs.setIfInBounds t.i vr).setIfInBounds t.j vg) t.T (0, 0)) ∧ k116.R 116 w t.base (okL t.bm t.b (vg :: t.L)) vr rows ∧ Kd.string.R 9 w t.base (okL t.bm t.b (vr :: t.L)) vg gone ∧
   ∀ {α : Type} (d : Kd α) (e : Nat) (v : Value) (xs : List α) (L L' : List Value), d.R e W t.base (okL t.bm t.b L) v xs → vr0 ∈ L → vg0 ∈ L → (∀ u ∈ L', u ∈ L ∨ u = vr ∨ u = vg) → d.R e w t.base (okL t.bm t.b L') v xs := by
 obtain ⟨vr, vg, h0, hb, r1, r2, hc, a1, a2, hf⟩ := h
 refine ⟨vr, vg, h0, r1, r2, fun d e v xs L L' hr m1 m2 hL => ?_⟩
 refine Kd.R_mono (Kd.R_step (Kd.R_bound hr) (fun k hk hlt => hc.block k hlt (fun hs => ?_))) (fun k hk => ⟨hk.1.1, hk.1.2.1, fun u hu => ?_⟩)
 ·rcases hs with hs | hs | hs | hs
  ·exact hk.1.2.1 hs
  ·exact hk.1.1 hs
  ·exact hk.1.2.2 _ m1 hs
  ·exact hk.1.2.2 _ m2 hs
 ·rcases hL u hu with h1 | rfl | rfl
  ·exact hk.1.2.2 u h1
  ·rcases a1 with a1 | ⟨g, a1, hge⟩
   ·rw [a1]; exact hk.1.2.2 _ m1
   ·rw [a1]; intro he; injection he with he; have := hk.2.2.1; omega
  ·rcases a2 with a2 | ⟨g, a2, hge⟩
   ·rw [a2]; exact hk.1.2.2 _ m2
   ·rw [a2]; intro he; injection he with he; have := hk.2.2.1; omega
theorem ok_perm {bm b : Nat} {L L' : List Value} (h : ∀ u ∈ L', u ∈ L) : ∀ k, okL bm b L k → okL bm b L' k := fun _ hk => ⟨hk.1, hk.2.1, fun u hu => hk.2.2 u (h u hu)⟩
def EInv (base b be : Nat) (W : World) (x : PEnum) : Prop :=
 ∃ v1 v2 v3, W.heap[be]? = some (.cells #[.string x.f0, v1, v2, v3] 77 (0, 0)) ∧ (base ≤ be ∧ b < base) ∧ k79.R 79 W base (okL be b [v2, v3]) v1 x.f1 ∧
  k116.R 116 W base (okL be b [v1, v3]) v2 x.f2 ∧ Kd.string.R 9 W base (okL be b [v1, v2]) v3 x.f3
theorem EInv.b {base b be : Nat} {W W1 : World} {x : PEnum} (h : EInv base b be W x) (hc : Ch (· = b) W W1) : EInv base b be W1 x := by
 obtain ⟨v1, v2, v3, h0, hb, r1, r2, r3⟩ := h
 have hlt := (Array.getElem?_eq_some_iff.1 h0).1
 exact ⟨v1, v2, v3, (hc.block be hlt (fun e => by omega)).trans h0, hb, row_ch r1 hc (fun k _ _ h _ => h), row_ch r2 hc (fun k _ _ h _ => h), row_ch r3 hc (fun k _ _ h _ => h)⟩
theorem EInv.lt {base b be : Nat} {W : World} {x : PEnum} (h : EInv base b be W x) : be < W.heap.size ∧ base ≤ be ∧ b < base := by
 obtain ⟨v1, v2, v3, h0, hb, _⟩ := h
 exact ⟨(Array.getElem?_eq_some_iff.1 h0).1, hb⟩
theorem EInv.ti {base b be : Nat} {W : World} {x : PEnum} (h : EInv base b be W x) : ∃ v1 v2 v3, TI ⟨base, b, be, 2, 3, 77, #[.string x.f0, v1, v2, v3], [v1]⟩ W v2 v3 W x.f2 x.f3 ∧ (∀ w r g, TI ⟨base, b, be, 2, 3, 77, #[.string x.f0, v1, v2, v3], [v1]⟩ W v2 v3 w r g → EInv base b be w { x with f2 := r, f3 := g }) ∧ (∀ w, Ch (SR b be v2 v3) W w → Ch (SM b base) W w) := by
 obtain ⟨v1, v2, v3, h0, hb, r1, r2, r3⟩ := h
 refine ⟨v1, v2, v3, ⟨v2, v3, h0, ⟨hb.1, hb.2, (by show 2 < 3; decide), (by show 3 < 4; decide)⟩, Kd.R_mono r2 (ok_perm (by intro u hu; simp only [List.mem_cons, List.not_mem_nil, or_false] at hu ⊢; rcases hu with h | h; exact .inr h; exact .inl h)), Kd.R_mono r3 (ok_perm (by intro u hu; simp only [List.mem_cons, List.not_mem_nil, or_false] at hu ⊢; rcases hu with h | h; exact .inr h; exact .inl h)), Ch.refl _ _, .inl rfl, .inl rfl, ?_⟩, ?_, ?_⟩
 ·intro u hu k hk
  simp only [List.mem_cons, List.not_mem_nil, or_false] at hu
  subst hu
  exact (row_lt r1 k hk).1
 ·intro w r g hT
  obtain ⟨vr, vg, h1, q1, q2, hq⟩ := row_ti hT
  exact ⟨v1, vr, vg, h1, hb, hq _ _ v1 x.f1 [v2, v3] [vr, vg] r1 (by simp) (by simp) (by simp), Kd.R_mono q1 (ok_perm (by intro u hu; simp only [List.mem_cons, List.not_mem_nil, or_false] at hu ⊢; rcases hu with h | h; exact .inr h; exact .inl h)), Kd.R_mono q2 (ok_perm (by intro u hu; simp only [List.mem_cons, List.not_mem_nil, or_false] at hu ⊢; rcases hu with h | h; exact .inr h; exact .inl h))⟩
 ·intro w hw
  refine hw.mono (fun k hk hs => ?_)
  rcases hs with hs | hs | hs | hs
  ·exact .inl hs
  ·exact .inr (by omega)
  ·exact .inr (row_lt r2 k hs.symm).2
  ·exact .inr (row_lt r3 k hs.symm).2
theorem MInv.ti {base b bm : Nat} {W : World} {m : PMsg} (h : MInv base b bm W m) : ∃ v1 v2 v3 v4 v5 v6, TI ⟨base, b, bm, 5, 6, 48, #[.string m.f0, v1, v2, v3, v4, v5, v6], [v1, v2, v3, v4]⟩ W v5 v6 W m.f5 m.f6 ∧ (∀ w r g, TI ⟨base, b, bm, 5, 6, 48, #[.string m.f0, v1, v2, v3, v4, v5, v6], [v1, v2, v3, v4]⟩ W v5 v6 w r g → MInv base b bm w { m with f5 := r, f6 := g }) ∧ (∀ w, Ch (SR b bm v5 v6) W w → Ch (SM b base) W w) := by
 obtain ⟨v1, v2, v3, v4, v5, v6, h0, hb, r1, r2, r3, r4, r5, r6⟩ := h
 refine ⟨v1, v2, v3, v4, v5, v6, ⟨v5, v6, h0, ⟨hb.1, hb.2, (by show 5 < 6; decide), (by show 6 < 7; decide)⟩, Kd.R_mono r5 (ok_perm (by simp)), Kd.R_mono r6 (ok_perm (by simp)), Ch.refl _ _, .inl rfl, .inl rfl, ?_⟩, ?_, ?_⟩
 ·intro u hu k hk
  simp only [List.mem_cons, List.not_mem_nil, or_false] at hu
  rcases hu with rfl | rfl | rfl | rfl
  ·exact (row_lt r1 k hk).1
  ·exact (row_lt r2 k hk).1
  ·exact (row_lt r3 k hk).1
  ·exact (row_lt r4 k hk).1
 ·intro w r g hT
  obtain ⟨vr, vg, h1, q1, q2, hq⟩ := row_ti hT
  exact ⟨v1, v2, v3, v4, vr, vg, h1, hb, hq _ _ v1 m.f1 [v2, v3, v4, v5, v6] [v2, v3, v4, vr, vg] r1 (by simp) (by simp) (by simp), hq _ _ v2 m.f2 [v1, v3, v4, v5, v6] [v1, v3, v4, vr, vg] r2 (by simp) (by simp) (by simp), hq _ _ v3 m.f3 [v1, v2, v4, v5, v6] [v1, v2, v4, vr, vg] r3 (by simp) (by simp) (by simp), hq _ _ v4 m.f4 [v1, v2, v3, v5, v6] [v1, v2, v3, vr, vg] r4 (by simp) (by simp) (by simp), Kd.R_mono q1 (ok_perm (by simp)), Kd.R_mono q2 (ok_perm (by simp))⟩
 ·intro w hw
  refine hw.mono (fun k hk hs => ?_)
  rcases hs with hs | hs | hs | hs
  ·exact .inl hs
  ·exact .inr (by omega)
  ·exact .inr (row_lt r5 k hs.symm).2
  ·exact .inr (row_lt r6 k hs.symm).2
def PostE (base b be : Nat) (X : PFix) (W : World) (r : PR PEnum) (e : Ending) (w' : World) : Prop :=
 match r with
 | .ok (x, s) => e = .returned (.tuple #[]) ∧ PAt b X w' s ∧ EInv base b be w' x ∧ Ch (SM b base) W w'
 | .error x => e = thrown x.1 x.2 ∧ Ch (SM b base) W w'
set_option maxHeartbeats 4000000 in
set_option maxRecDepth 100000 in
theorem values1_calls (base b be : Nat) (X : PFix) (k : Nat) (x : PEnum) (s : PS) (r : PR PEnum) (hr : (Pm.bo (Pm.reserved k X.e true x.f2 x.f3 s) fun r s => some (.ok ({ x with f2 := r.1, f3 := r.2 }, s))) = some r) (W : World) (h : PAt b X W s) (hM : EInv base b be W x) :
  Calls Tryd.prog 51 #[.pointer (some ⟨b, 0, none⟩), .pointer (some ⟨be, 0, none⟩)] W (PostE base b be X W r) := by
 obtain ⟨v1, v2, v3, hT, hB, hS⟩ := EInv.ti (EInv.b hM (Ch.drew (Ch.refl (· = b) W)))
 have HP := Aside0.mk h
 have HC := Aside0.mk (Ch.refl (· = b) W)
 have HG := Aside0.mk True.intro
 have HT := Aside0.mk hT
 have HB := Aside0.mk hB
 have HS := Aside0.mk hS
 have HR := Aside0.mk hr
 clear h hM hT hB hS hr
 go_enter Tryd.func51, Tryd.ntmps51
 go_wp2
 go_region_law ((go_simp; go_at_call 49; rcases bo_cases HR.out with ⟨y, hy, hr2⟩ | ⟨a, s1, hy, hr2⟩; (subst hr2; refine (reserved_calls _ X k true _ _ _ _ s _ hy W.drew (PAt.dr HP.out) HT.out).mono ?_; rintro e w1 ⟨rfl, hC⟩; exact ⟨rfl, rfl, (Ch.drew (Ch.refl (SM b base) W)).trans (HS.out _ hC)⟩); (refine (reserved_calls _ X k true _ _ _ _ s _ hy W.drew (PAt.dr HP.out) HT.out).mono ?_; rintro e w1 ⟨rfl, hP, hT2⟩; obtain rfl := Option.some.inj hr2; have HP2 := Aside0.mk hP; have HT2 := Aside0.mk hT2; clear hP hT2 hr2 hy HR)))
 all_goals go_wp2
 all_goals go_end0
 all_goals exact ⟨rfl, HP2.out, HB.out _ _ _ HT2.out, (Ch.drew (Ch.refl (SM b base) W)).trans (HS.out _ (TI.c HT2.out))⟩
set_option maxHeartbeats 4000000 in
set_option maxRecDepth 100000 in
theorem members3_calls (base b bm : Nat) (X : PFix) (k : Nat) (x : PMsg) (s : PS) (r : PR PMsg) (hr : (Pm.bo (Pm.reserved k X.e false x.f5 x.f6 s) fun r s => some (.ok ({ x with f5 := r.1, f6 := r.2 }, s))) = some r) (W : World) (h : PAt b X W s) (hM : MInv base b bm W x) :
  Calls Tryd.prog 48 #[.pointer (some ⟨b, 0, none⟩), .pointer (some ⟨bm, 0, none⟩)] W (PostM base b bm X W r) := by
 obtain ⟨v1, v2, v3, v4, v5, v6, hT, hB, hS⟩ := MInv.ti (MInv.b hM (Ch.drew (Ch.refl (· = b) W)))
 have HP := Aside0.mk h
 have HC := Aside0.mk (Ch.refl (· = b) W)
 have HG := Aside0.mk True.intro
 have HT := Aside0.mk hT
 have HB := Aside0.mk hB
 have HS := Aside0.mk hS
 have HR := Aside0.mk hr
 clear h hM hT hB hS hr
 go_enter Tryd.func48, Tryd.ntmps48
 go_wp2
 go_region_law ((go_simp; go_at_call 49; rcases bo_cases HR.out with ⟨y, hy, hr2⟩ | ⟨a, s1, hy, hr2⟩; (subst hr2; refine (reserved_calls _ X k false _ _ _ _ s _ hy W.drew (PAt.dr HP.out) HT.out).mono ?_; rintro e w1 ⟨rfl, hC⟩; exact ⟨rfl, rfl, (Ch.drew (Ch.refl (SM b base) W)).trans (HS.out _ hC)⟩); (refine (reserved_calls _ X k false _ _ _ _ s _ hy W.drew (PAt.dr HP.out) HT.out).mono ?_; rintro e w1 ⟨rfl, hP, hT2⟩; obtain rfl := Option.some.inj hr2; have HP2 := Aside0.mk hP; have HT2 := Aside0.mk hT2; clear hP hT2 hr2 hy HR)))
 all_goals go_wp2
 all_goals go_end0
 all_goals exact ⟨rfl, HP2.out, HB.out _ _ _ HT2.out, (Ch.drew (Ch.refl (SM b base) W)).trans (HS.out _ (TI.c HT2.out))⟩
theorem EInv.app1 {base b be : Nat} {W : World} {x : PEnum} (h : EInv base b be W x) : ∃ v L, (W.cell? ⟨be, 1, none⟩ = some v ∧ (∀ j, W.frozen? ⟨be, j, none⟩ = false) ∧ be < W.heap.size) ∧ k79.R 79 W base (okL be b L) v x.f1 ∧ (∀ k, W.heap.size ≤ k → okL be b L k) ∧ base ≤ W.heap.size ∧
  ∀ w9 v9 l9, k79.R 79 w9 base (okL be b L) v9 l9 → W.grownBy w9 v.ownBlock → (v9.ownBlock = v.ownBlock ∨ ∃ g, v9.ownBlock = some g ∧ W.heap.size ≤ g) →
   (w9.cell? ⟨be, 1, none⟩ = some v ∧ (∀ j, w9.frozen? ⟨be, j, none⟩ = false) ∧ be < w9.heap.size) ∧ EInv base b be (w9.setCell ⟨be, 1, none⟩ v9) { x with f1 := l9 } ∧ Ch (fun k => base ≤ k) W (w9.setCell ⟨be, 1, none⟩ v9) := by
 obtain ⟨v1, v2, v3, h0, hb, r1, r2, r3⟩ := h
 have g0 := pcell h0
 have hne : some be ≠ v1.ownBlock := fun e => (r1.1 be e.symm).1 rfl
 have hblt : b < W.heap.size := by have := g0.2.2; have := hb.1; omega
 refine ⟨v1, [v2, v3], ⟨g0.1 1 _ rfl, g0.2.1, g0.2.2⟩, r1, row_fresh g0.2.2 hblt ?_, Nat.le_trans hb.1 (Nat.le_of_lt g0.2.2), fun w9 v9 l9 r9 hg hat => ⟨?_, ?_, ?_⟩⟩
 ·intro v hv k hk
  simp only [List.mem_cons, List.not_mem_nil, or_false] at hv
  rcases hv with rfl | rfl
  ·exact (row_lt r2 k hk).1
  ·exact (row_lt r3 k hk).1
 ·have g9 := pcell ((hg.block be g0.2.2 hne).trans h0)
  exact ⟨g9.1 1 _ rfl, g9.2.1, g9.2.2⟩
 ·exact ⟨v9, v2, v3, by simpa using pset ((hg.block be g0.2.2 hne).trans h0) 1 v9, hb, Kd.R_far r9 (fun k hk => hk.1) _, Kd.R_far (row_other (L' := [v9, v3]) r2 (by simp) hg hat (by simp)) (fun k hk => hk.1) _, Kd.R_far (row_other (L' := [v9, v2]) r3 (by simp) hg hat (by simp)) (fun k hk => hk.1) _⟩
 ·exact Ch.set (Ch.then_grown (Ch.refl _ W) hg (fun k _ e => (row_lt r1 k e).2)) (fun _ => hb.1) _
theorem Ch.fin {b base : Nat} {W w : World} {o : Obj} (h : Ch (SM b base) (W.alloc o) w) (hb : base = (W.alloc o).heap.size) : Ch (· = b) W w := by
 subst hb
 exact (Ch.alloc (Ch.refl _ W) o).trans (h.mono (fun k hk h => h.elim (fun h => h) (fun h => absurd hk (Nat.not_lt.mpr h))))
theorem EInv.new {b : Nat} {W : World} {base : Nat} (hb : b < base) (hw : base ≤ W.heap.size) (n : ByteArray) : EInv base b W.heap.size (W.alloc (.cells #[.string n, .slice none 0 0, .slice none 0 0, .slice none 0 0] 77)) ⟨n, [], [], []⟩ :=
 ⟨_, _, _, blk_new W _, ⟨hw, hb⟩, Kd.R_nil _ _ _ _ _, Kd.R_nil _ _ _ _ _, Kd.R_nil _ _ _ _ _⟩
def TabE (b g : Nat) (X : PFix) (W : World) : Prop := X.t2 = .slice (some ⟨g, 0, none⟩) 2 2 ∧ g ≠ b ∧ W.heap[g]? = some (.cells tabE 98 (0, 0))
def PostEn (b : Nat) (X : PFix) (W : World) (r : PR PEnum) (e : Ending) (w' : World) : Prop :=
 match r with
 | .ok (x, s) => (∃ v1 v2 v3, e = .returned (.agg #[.string x.f0, v1, v2, v3]) ∧ k77.M w' (W.heap.size + 1) (fun k => W.heap.size < k) x [.string x.f0, v1, v2, v3]) ∧ PAt b X w' s ∧ Ch (· = b) W w'
 | .error x => e = thrown x.1 x.2 ∧ Ch (· = b) W w'
theorem dec_cast0 (a : Nat) : decide ((a : Int) > 0) = decide (0 < a) := by rw [decide_eq_decide]; omega
theorem EInv.sl1 {base b be : Nat} {W : World} {x : PEnum} (h : EInv base b be W x) : ∃ A c, W.cell? ⟨be, 1, none⟩ = some (.slice A x.f1.length c) ∧ W.frozen? ⟨be, 1, none⟩ = false ∧ be < W.heap.size := by
 obtain ⟨v1, v2, v3, h0, hb, r1, _⟩ := h
 obtain ⟨A, c, rfl⟩ := Kd.R_slice r1
 have g := pcell h0
 exact ⟨A, c, g.1 1 _ rfl, g.2.1 1, g.2.2⟩
theorem row_res {α : Type} {d : Kd α} {e : Nat} {w : World} {base bm b g : Nat} {L : List Value} {v : Value} {xs : List α} (h : d.R e w base (okL bm b L) v xs) (hg : g < base) : d.R e w base (fun k => g < k) v xs := Kd.R_mono (Kd.R_bound h) (fun k hk => Nat.lt_of_lt_of_le hg hk.2.1)
theorem row_st {α : Type} {d : Kd α} {e : Nat} {w : World} {base g j : Nat} {v : Value} {xs : List α} (h : d.R e w base (fun k => g < k) v xs) (u : Value) : d.R e (w.setCell ⟨g, j, none⟩ u) base (fun k => g < k) v xs := Kd.R_far h (fun k hk => Nat.ne_of_gt hk) u
def enumC (e : Int) (x : Option (PR PEnum)) : Option (PR PEnum) := Pm.bo x fun x s => Pm.bo (some (Pm.unl e (decide ((x.f1.length : Int) > 0)) s)) fun _ s => some (.ok (x, Pm.nxt s))
set_option maxHeartbeats 8000000 in
set_option maxRecDepth 100000 in
theorem enum_calls (b gt : Nat) (X : PFix) (k : Nat) (s : PS) (r : PR PEnum) (hr : Pm.enum k X.e s = some r) (W : World) (h : PAt b X W s) (hT : TabE b gt X W) :
  Calls Tryd.prog 44 #[.pointer (some ⟨b, 0, none⟩)] W (PostEn b X W r) := by
 obtain ⟨base, hbase⟩ : ∃ base, base = (W.alloc (.cells #[.string ⟨#[]⟩, .slice none 0 0, .slice none 0 0, .slice none 0 0] 77)).heap.size := ⟨_, rfl⟩
 have HBase := Aside0.mk hbase
 have HBlt := Aside0.mk h.lt
 have HT := Aside0.mk hT
 have HP := Aside0.mk (PAt.al h (.cells #[.string ⟨#[]⟩, .slice none 0 0, .slice none 0 0, .slice none 0 0] 77))
 have HC := Aside0.mk (Ch.refl (· = b) (W.alloc (.cells #[.string ⟨#[]⟩, .slice none 0 0, .slice none 0 0, .slice none 0 0] 77)))
 have HG := Aside0.mk True.intro
 unfold Pm.enum at hr
 have HR := Aside0.mk hr
 clear h hr hT hbase
 have hf := fld0
 go_enter Tryd.func44, Tryd.ntmps44
 go_wp2_with fail
 rcases bo_cases HR.out with ⟨y, hy, hr2⟩ | ⟨⟨⟩, s1, hy, hr2⟩; (clear HR; subst hr2; refine (counts_calls b X s _ (by with_reducible repeat (first | exact HP.out | apply PAt.al | apply PAt.dn | apply PAt.dr | refine PAt.st ?_ ⟨HG.out.1, HG.out.2.1⟩ _))).mono ?_; rintro e w1 hU; rw [(Option.some.inj hy : Pm.counts X.e s = _)] at hU; obtain ⟨rfl, hC⟩ := hU; exact ⟨rfl, rfl, Ch.fin (Ch.sm (Ch.trans (by with_reducible repeat (first | exact HC.out | apply Ch.alloc | apply Ch.drewN | apply Ch.drew | refine Ch.stg ?_ HG.out.2.2 _)) hC)) HBase.out⟩); ((try dsimp only at hr2); clear HR; have HR := Aside0.mk hr2; clear hr2; refine (counts_calls b X s _ (by with_reducible repeat (first | exact HP.out | apply PAt.al | apply PAt.dn | apply PAt.dr | refine PAt.st ?_ ⟨HG.out.1, HG.out.2.1⟩ _))).mono ?_; rintro e w1 hU; rw [(Option.some.inj hy : Pm.counts X.e s = _)] at hU; obtain ⟨rfl, hP, hC⟩ := hU; have n0_ := Aside0.mk hP; have n1_ := Aside0.mk (Ch.trans (by with_reducible repeat (first | exact HC.out | apply Ch.alloc | apply Ch.drewN | apply Ch.drew | refine Ch.stg ?_ HG.out.2.2 _)) hC); clear hP hC hy; (try clear HP); clear HC; have HP := n0_; have HC := n1_; clear n0_ n1_)
 go_wp2_with fail
 refine (next_calls b X s1 _ (by with_reducible repeat (first | exact HP.out | apply PAt.al | apply PAt.dn | apply PAt.dr | refine PAt.st ?_ ⟨HG.out.1, HG.out.2.1⟩ _))).mono ?_; rintro e w1 ⟨rfl, hP, hC⟩; have n0_ := Aside0.mk hP; have n1_ := Aside0.mk (Ch.trans (by with_reducible repeat (first | exact HC.out | apply Ch.alloc | apply Ch.drewN | apply Ch.drew | refine Ch.stg ?_ HG.out.2.2 _)) hC); clear HP HC hP hC; have HP := n0_; have HC := n1_; clear n0_ n1_
 go_wp2_with fail
 rcases bo_cases HR.out with ⟨y, hy, hr2⟩ | ⟨n, s2, hy, hr2⟩; (clear HR; subst hr2; refine (name_calls b X k (Pm.nxt s1) _ hy _ (by with_reducible repeat (first | exact HP.out | apply PAt.al | apply PAt.dn | apply PAt.dr | refine PAt.st ?_ ⟨HG.out.1, HG.out.2.1⟩ _))).mono ?_; rintro e w1 ⟨rfl, hC⟩; exact ⟨rfl, rfl, Ch.fin (Ch.sm (Ch.trans (by with_reducible repeat (first | exact HC.out | apply Ch.alloc | apply Ch.drewN | apply Ch.drew | refine Ch.stg ?_ HG.out.2.2 _)) hC)) HBase.out⟩); ((try dsimp only at hr2); clear HR; have HR := Aside0.mk hr2; clear hr2; refine (name_calls b X k (Pm.nxt s1) _ hy _ (by with_reducible repeat (first | exact HP.out | apply PAt.al | apply PAt.dn | apply PAt.dr | refine PAt.st ?_ ⟨HG.out.1, HG.out.2.1⟩ _))).mono ?_; rintro e w1 ⟨rfl, hP, hC⟩; have n0_ := Aside0.mk hP; have n1_ := Aside0.mk (Ch.trans (by with_reducible repeat (first | exact HC.out | apply Ch.alloc | apply Ch.drewN | apply Ch.drew | refine Ch.stg ?_ HG.out.2.2 _)) hC); clear hP hC hy; (try clear HP); clear HC; have HP := n0_; have HC := n1_; clear n0_ n1_)
 obtain ⟨we, rfl⟩ : ∃ we : World, we = w1 := ⟨_, rfl⟩
 have HE := Aside0.mk (EInv.new (b := b) (W := we) (base := base) (by rw [HBase.out]; exact Nat.lt_of_lt_of_le HBlt.out (by simp)) (by rw [HBase.out]; exact HC.out.size) n)
 have HCs := Aside0.mk ((Ch.sm HC.out : Ch (SM b base) _ we).alloc (.cells #[.string n, .slice none 0 0, .slice none 0 0, .slice none 0 0] 77))
 have HP2 := Aside0.mk (PAt.al HP.out (.cells #[.string n, .slice none 0 0, .slice none 0 0, .slice none 0 0] 77))
 clear HP HC
 have HP := HP2
 have HC := Aside0.mk (Ch.refl (· = b) (we.alloc (.cells #[.string n, .slice none 0 0, .slice none 0 0, .slice none 0 0] 77)))
 clear HP2
 go_wp2_with fail
 rcases bo_cases HR.out with ⟨y, hy, hr2⟩ | ⟨⟨⟩, s3, hy, hr2⟩; (clear HR; subst hr2; refine (sign_calls b X Pm.wLbrace s2 _ (by with_reducible repeat (first | exact HP.out | apply PAt.al | apply PAt.dn | apply PAt.dr | refine PAt.st ?_ ⟨HG.out.1, HG.out.2.1⟩ _))).mono ?_; rintro e w1 hU; rw [(Option.some.inj hy : Pm.sign X.e Pm.wLbrace s2 = _)] at hU; obtain ⟨rfl, hC⟩ := hU; exact ⟨rfl, rfl, Ch.fin (HCs.out.trans (Ch.sm (Ch.trans (by with_reducible repeat (first | exact HC.out | apply Ch.alloc | apply Ch.drewN | apply Ch.drew | refine Ch.stg ?_ HG.out.2.2 _)) hC))) HBase.out⟩); ((try dsimp only at hr2); clear HR; have HR := Aside0.mk hr2; clear hr2; refine (sign_calls b X Pm.wLbrace s2 _ (by with_reducible repeat (first | exact HP.out | apply PAt.al | apply PAt.dn | apply PAt.dr | refine PAt.st ?_ ⟨HG.out.1, HG.out.2.1⟩ _))).mono ?_; rintro e w1 hU; rw [(Option.some.inj hy : Pm.sign X.e Pm.wLbrace s2 = _)] at hU; obtain ⟨rfl, hP, hC⟩ := hU; have n0_ := Aside0.mk hP; have n1_ := Aside0.mk (Ch.trans (by with_reducible repeat (first | exact HC.out | apply Ch.alloc | apply Ch.drewN | apply Ch.drew | refine Ch.stg ?_ HG.out.2.2 _)) hC); clear hP hC hy; (try clear HP); clear HC; have HP := n0_; have HC := n1_; clear n0_ n1_)
 go_wp2
 have HE2 := Aside0.mk (EInv.b HE.out HC.out)
 have HCs2 := Aside0.mk (HCs.out.trans (Ch.sm HC.out))
 clear HE HC HCs
 go_loopg [4, 5, 43, 48] k (fun kq v4_ v5_ v43_ v48_ w' => ∃ (x' : PEnum) (s' : PS), Aside0 (enumC X.e (Pm.enumL X.e kq x' s') = some r) ∧ Aside0 (kq ≤ k) ∧ Aside0 (PAt b X w' s') ∧ Aside0 (EInv base b _ w' x') ∧ Aside0 (Ch (SM b base) _ w'))
 case atStart => exact ⟨_, _, HR, ⟨Nat.le_refl _⟩, HP, HE2, HCs2⟩
 case round =>
  clear HR HP HE2 HCs2
  obtain ⟨x', s', HR, HK1, HP, HE, HCs⟩ := hrel
  have HC := Aside0.mk (Ch.refl (· = b) wr)
  cases gk with
  | zero => exact absurd HR.out (by simp [Pm.enumL, enumC, Pm.bo])
  | succ k1 =>
   have hr2 := HR.out
   clear HR
   simp only [Pm.enumL] at hr2
   unfold enumC at hr2
   have HR := Aside0.mk hr2
   clear hr2
   go_wp2_with fail
   cases g : Pm.is X.e 4 Pm.wRbrace s' with
   | true =>
    have hr3 := HR.out; rw [if_pos g] at hr3; clear HR; have HR := Aside0.mk hr3; clear hr3
    have HGr := Aside0.mk g
    clear g
    have hr4 := (show Pm.bo (some (Pm.unl X.e (decide ((x'.f1.length : Int) > 0)) s')) _ = some r from HR.out)
    rw [dec_cast0] at hr4
    clear HR
    have HR := Aside0.mk hr4
    clear hr4
    refine (is_calls b X 4 Pm.wRbrace s' _ (by with_reducible repeat (first | exact HP.out | apply PAt.al | apply PAt.dn | apply PAt.dr | refine PAt.st ?_ ⟨HG.out.1, HG.out.2.1⟩ _))).mono ?_; rintro e w1 ⟨rfl, hb⟩; rw [HGr.out]; have n0_ := Aside0.mk (PAt.below (by with_reducible repeat (first | exact HP.out | apply PAt.al | apply PAt.dn | apply PAt.dr | refine PAt.st ?_ ⟨HG.out.1, HG.out.2.1⟩ _)) hb); have n1_ := Aside0.mk (Ch.then_below (by with_reducible repeat (first | exact HC.out | apply Ch.alloc | apply Ch.drewN | apply Ch.drew | refine Ch.stg ?_ HG.out.2.2 _)) hb); clear HP HC hb; have HP := n0_; have HC := n1_; clear n0_ n1_
    obtain ⟨A1, c1, q1, g1, l1⟩ := EInv.sl1 (EInv.b HE.out HC.out)
    go_wp2_with fail
    rcases bo_cases HR.out with ⟨y, hy, hr2⟩ | ⟨⟨⟩, s4, hy, hr2⟩; (clear HR; subst hr2; refine (unless_calls b X (decide (0 < x'.f1.length)) s' _ (by with_reducible repeat (first | exact HP.out | apply PAt.al | apply PAt.dn | apply PAt.dr | refine PAt.st ?_ ⟨HG.out.1, HG.out.2.1⟩ _))).mono ?_; rintro e w1 hU; rw [(Option.some.inj hy : Pm.unl X.e (decide (0 < x'.f1.length)) s' = _)] at hU; obtain ⟨rfl, hC⟩ := hU; exact ⟨rfl, rfl, Ch.fin (HCs.out.trans (Ch.sm (Ch.trans (by with_reducible repeat (first | exact HC.out | apply Ch.alloc | apply Ch.drewN | apply Ch.drew | refine Ch.stg ?_ HG.out.2.2 _)) hC))) HBase.out⟩); ((try dsimp only at hr2); clear HR; have HR := Aside0.mk hr2; clear hr2; refine (unless_calls b X (decide (0 < x'.f1.length)) s' _ (by with_reducible repeat (first | exact HP.out | apply PAt.al | apply PAt.dn | apply PAt.dr | refine PAt.st ?_ ⟨HG.out.1, HG.out.2.1⟩ _))).mono ?_; rintro e w1 hU; rw [(Option.some.inj hy : Pm.unl X.e (decide (0 < x'.f1.length)) s' = _)] at hU; obtain ⟨rfl, hP, hC⟩ := hU; have n0_ := Aside0.mk hP; have n1_ := Aside0.mk (Ch.trans (by with_reducible repeat (first | exact HC.out | apply Ch.alloc | apply Ch.drewN | apply Ch.drew | refine Ch.stg ?_ HG.out.2.2 _)) hC); clear hP hC hy; (try clear HP); clear HC; have HP := n0_; have HC := n1_; clear n0_ n1_)
    go_wp2_with fail
    refine (next_calls b X s4 _ (by with_reducible repeat (first | exact HP.out | apply PAt.al | apply PAt.dn | apply PAt.dr | refine PAt.st ?_ ⟨HG.out.1, HG.out.2.1⟩ _))).mono ?_; rintro e w1 ⟨rfl, hP, hC⟩; have n0_ := Aside0.mk hP; have n1_ := Aside0.mk (Ch.trans (by with_reducible repeat (first | exact HC.out | apply Ch.alloc | apply Ch.drewN | apply Ch.drew | refine Ch.stg ?_ HG.out.2.2 _)) hC); clear HP HC hP hC; have HP := n0_; have HC := n1_; clear n0_ n1_
    obtain rfl := Option.some.inj HR.out
    clear HR q1 g1 l1
    obtain ⟨v1, v2, v3, h0, hb0, r1, r2, r3⟩ := EInv.b HE.out HC.out
    obtain ⟨A1, n1, c1, rfl⟩ := R_slice3 r1
    obtain ⟨A2, n2, c2, rfl⟩ := R_slice3 r2
    obtain ⟨A3, n3, c3, rfl⟩ := R_slice3 r3
    have hbs : base = W.heap.size + 1 := by rw [HBase.out]; simp
    have R1 := Aside0.mk (row_res (g := W.heap.size) r1 (by omega))
    have R2 := Aside0.mk (row_res (g := W.heap.size) r2 (by omega))
    have R3 := Aside0.mk (row_res (g := W.heap.size) r3 (by omega))
    have hx0 := (HC.out.block W.heap.size (Nat.lt_of_lt_of_le (by simp) HCs.out.size) (fun e => Nat.ne_of_gt HBlt.out e)).trans ((HCs.out.block W.heap.size (by simp) (fun h => h.elim (fun e => Nat.ne_of_gt HBlt.out e) (fun h => by omega))).trans (blk_new W _))
    have hne : W.heap.size < we.heap.size := by have := hb0.1; omega
    have hn1 := Nat.ne_of_lt hne
    have hn2 := Nat.ne_of_gt hne
    have HBS := Aside0.mk hbs
    clear hb0 r1 r2 r3 hne hbs
    obtain ⟨bx1, bxf, bx3⟩ := pcell h0
    have x0 : w1.cell? ⟨we.heap.size, 0, none⟩ = some (.string x'.f0) := bx1 0 _ rfl
    have x1 : w1.cell? ⟨we.heap.size, 1, none⟩ = some (.slice A1 n1 c1) := bx1 1 _ rfl
    have x2 : w1.cell? ⟨we.heap.size, 2, none⟩ = some (.slice A2 n2 c2) := bx1 2 _ rfl
    have x3 : w1.cell? ⟨we.heap.size, 3, none⟩ = some (.slice A3 n3 c3) := bx1 3 _ rfl
    obtain ⟨by1, byf, by3⟩ := pcell hx0
    have y0 := by1 0 _ rfl
    have y1 := by1 1 _ rfl
    have y2 := by1 2 _ rfl
    have y3 := by1 3 _ rfl
    have z0 := byf 0
    have z1 := byf 1
    have z2 := byf 2
    have z3 := byf 3
    clear h0 hx0 bx1 bxf by1 byf
    go_wp2
    refine bodyPost_ret (v := .agg #[.string x'.f0, .slice A1 n1 c1, .slice A2 n2 c2, .slice A3 n3 c3]) (by simp [results, Tryd.results44, go_sem, *]) rfl ?_
    have hC1 := Ch.fin (HCs.out.trans (Ch.sm HC.out)) HBase.out
    exact ⟨⟨_, _, _, rfl, by rw [← HBS.out]; exact k77_mkM _ _ _ _ (row_st (row_st (row_st (row_st R1.out _) _) _) _) (row_st (row_st (row_st (row_st R2.out _) _) _) _) (row_st (row_st (row_st (row_st R3.out _) _) _) _)⟩, PAt.st (PAt.st (PAt.st (PAt.st HP.out ⟨HBlt.out, HP.out.ge⟩ _) ⟨HBlt.out, HP.out.ge⟩ _) ⟨HBlt.out, HP.out.ge⟩ _) ⟨HBlt.out, HP.out.ge⟩ _, Ch.stg (Ch.stg (Ch.stg (Ch.stg hC1 (Nat.le_refl _) _) (Nat.le_refl _) _) (Nat.le_refl _) _) (Nat.le_refl _) _⟩
   | false =>
    have hr3 := HR.out; rw [if_neg (by rw [g]; exact Bool.false_ne_true)] at hr3; clear HR; have HR := Aside0.mk hr3; clear hr3
    have HGr := Aside0.mk g
    clear g
    refine (is_calls b X 4 Pm.wRbrace s' _ (by with_reducible repeat (first | exact HP.out | apply PAt.al | apply PAt.dn | apply PAt.dr | refine PAt.st ?_ ⟨HG.out.1, HG.out.2.1⟩ _))).mono ?_; rintro e w1 ⟨rfl, hb⟩; rw [HGr.out]; have n0_ := Aside0.mk (PAt.below (by with_reducible repeat (first | exact HP.out | apply PAt.al | apply PAt.dn | apply PAt.dr | refine PAt.st ?_ ⟨HG.out.1, HG.out.2.1⟩ _)) hb); have n1_ := Aside0.mk (Ch.then_below (by with_reducible repeat (first | exact HC.out | apply Ch.alloc | apply Ch.drewN | apply Ch.drew | refine Ch.stg ?_ HG.out.2.2 _)) hb); clear HP HC hb; have HP := n0_; have HC := n1_; clear n0_ n1_
    go_wp2_with fail
    cases g : Pm.is X.e 4 Pm.wSemi s' with
    | true =>
     have hr3 := HR.out; rw [if_pos g] at hr3; clear HR; have HR := Aside0.mk hr3; clear hr3
     have HGr := Aside0.mk g
     clear g
     refine (is_calls b X 4 Pm.wSemi s' _ (by with_reducible repeat (first | exact HP.out | apply PAt.al | apply PAt.dn | apply PAt.dr | refine PAt.st ?_ ⟨HG.out.1, HG.out.2.1⟩ _))).mono ?_; rintro e w1 ⟨rfl, hb⟩; rw [HGr.out]; have n0_ := Aside0.mk (PAt.below (by with_reducible repeat (first | exact HP.out | apply PAt.al | apply PAt.dn | apply PAt.dr | refine PAt.st ?_ ⟨HG.out.1, HG.out.2.1⟩ _)) hb); have n1_ := Aside0.mk (Ch.then_below (by with_reducible repeat (first | exact HC.out | apply Ch.alloc | apply Ch.drewN | apply Ch.drew | refine Ch.stg ?_ HG.out.2.2 _)) hb); clear HP HC hb; have HP := n0_; have HC := n1_; clear n0_ n1_
     go_wp2_with fail
     refine (next_calls b X s' _ (by with_reducible repeat (first | exact HP.out | apply PAt.al | apply PAt.dn | apply PAt.dr | refine PAt.st ?_ ⟨HG.out.1, HG.out.2.1⟩ _))).mono ?_; rintro e w1 ⟨rfl, hP, hC⟩; have n0_ := Aside0.mk hP; have n1_ := Aside0.mk (Ch.trans (by with_reducible repeat (first | exact HC.out | apply Ch.alloc | apply Ch.drewN | apply Ch.drew | refine Ch.stg ?_ HG.out.2.2 _)) hC); clear HP HC hP hC; have HP := n0_; have HC := n1_; clear n0_ n1_
     have HE2 := Aside0.mk (EInv.b HE.out HC.out)
     have HCs2 := Aside0.mk (HCs.out.trans (Ch.sm HC.out))
     clear HE HC HCs
     go_wp2
     go_roundg k1
     case measure => have := HK1.out; omega
     case rel => exact ⟨_, _, ⟨HR.out⟩, ⟨by have := HK1.out; omega⟩, HP, HE2, HCs2⟩
    | false =>
     have hr3 := HR.out; rw [if_neg (by rw [g]; exact Bool.false_ne_true)] at hr3; clear HR; have HR := Aside0.mk hr3; clear hr3
     have HGr := Aside0.mk g
     clear g
     refine (is_calls b X 4 Pm.wSemi s' _ (by with_reducible repeat (first | exact HP.out | apply PAt.al | apply PAt.dn | apply PAt.dr | refine PAt.st ?_ ⟨HG.out.1, HG.out.2.1⟩ _))).mono ?_; rintro e w1 ⟨rfl, hb⟩; rw [HGr.out]; have n0_ := Aside0.mk (PAt.below (by with_reducible repeat (first | exact HP.out | apply PAt.al | apply PAt.dn | apply PAt.dr | refine PAt.st ?_ ⟨HG.out.1, HG.out.2.1⟩ _)) hb); have n1_ := Aside0.mk (Ch.then_below (by with_reducible repeat (first | exact HC.out | apply Ch.alloc | apply Ch.drewN | apply Ch.drew | refine Ch.stg ?_ HG.out.2.2 _)) hb); clear HP HC hb; have HP := n0_; have HC := n1_; clear n0_ n1_
     go_wp2_with fail
     refine (now_calls b X s' _ (by with_reducible repeat (first | exact HP.out | apply PAt.al | apply PAt.dn | apply PAt.dr | refine PAt.st ?_ ⟨HG.out.1, HG.out.2.1⟩ _))).mono ?_; rintro e w1 ⟨rfl, hb⟩; have n0_ := Aside0.mk (PAt.below (by with_reducible repeat (first | exact HP.out | apply PAt.al | apply PAt.dn | apply PAt.dr | refine PAt.st ?_ ⟨HG.out.1, HG.out.2.1⟩ _)) hb); have n1_ := Aside0.mk (Ch.then_below (by with_reducible repeat (first | exact HC.out | apply Ch.alloc | apply Ch.drewN | apply Ch.drew | refine Ch.stg ?_ HG.out.2.2 _)) hb); clear HP HC hb; have HP := n0_; have HC := n1_; clear n0_ n1_
     by_cases kd : (Pm.now X.e s').f0 = 1
     ·have kb : ((Pm.now X.e s').f0 == 1) = true := beq_iff_eq.mpr kd
      obtain ⟨Ap, cp, h1, h2⟩ := HP.out
      obtain ⟨_, _, _, _, _, c11, fr, hlt⟩ := pcells_at h1
      rw [HT.out.1] at c11
      have hgl := (Array.getElem?_eq_some_iff.1 HT.out.2.2).1
      have HTb := Aside0.mk ((HC.out.block gt (Nat.lt_of_lt_of_le (by simp; omega) HCs.out.size) HT.out.2.1).trans ((HCs.out.block gt (by simp; omega) (fun h => h.elim HT.out.2.1 (fun h => by rw [HBase.out] at h; simp at h; omega))).trans (bx_al HT.out.2.2 _)))
      have f11 := fr 11
      clear h1 h2 fr hgl
      by_cases t1 : (Pm.now X.e s').f2.toList = Pm.wReserved.toList
      ·have hr3 := HR.out
       rw [if_pos ⟨kd, t1⟩, bo_assoc] at hr3
       have hr5 : Pm.bo (Pm.bo (Pm.reserved k1 X.e true x'.f2 x'.f3 s') (fun r s => some (.ok ({ x' with f2 := r.1, f3 := r.2 }, s)))) (fun x s => enumC X.e (Pm.enumL X.e k1 x s)) = some r := by rw [bo_assoc]; exact hr3
       have t1' : (Pm.now X.e s').f2.toList = ([114, 101, 115, 101, 114, 118, 101, 100] : List UInt8) := t1.trans (by simp [Pm.wReserved, go_sem])
       have T1 := Aside0.mk t1'
       have HR5 := Aside0.mk hr5
       clear hr3 hr5 t1 t1' HR kd
       go_wp2_with fail
       rcases bo_cases HR5.out with ⟨y, hy, hr2⟩ | ⟨x2, s1, hy, hr2⟩
       ·subst hr2
        refine (startedE_calls b gt X s' (.pointer (some ⟨we.heap.size, 0, none⟩)) (fun e w' => e = thrown y.1 y.2 ∧ Ch (· = b) W w') w1 HP.out HTb.out HT.out.2.1 (fun hm => absurd T1.out.symm (hm _ (by simp [wordsE]))) (fun _ w hP hC => (values1_calls base b we.heap.size X k1 x' s' _ hy w hP (EInv.b HE.out (HC.out.trans hC))).mono (fun e w' hU => Or.inr ⟨_, hU.1, hU.1, Ch.fin (HCs.out.trans ((Ch.sm (HC.out.trans hC)).trans hU.2)) HBase.out⟩)) (fun hn => absurd (T1.out.symm.trans hn) (by decide))).mono ?_
        rintro e w1 ⟨rfl, hC⟩
        exact ⟨rfl, rfl, hC⟩
       ·refine (startedE_calls b gt X s' (.pointer (some ⟨we.heap.size, 0, none⟩)) (fun e w' => e = .returned (.bool true) ∧ PAt b X w' s1 ∧ EInv base b we.heap.size w' x2 ∧ Ch (SM b base) _ w') w1 HP.out HTb.out HT.out.2.1 (fun hm => absurd T1.out.symm (hm _ (by simp [wordsE]))) (fun _ w hP hC => (values1_calls base b we.heap.size X k1 x' s' _ hy w hP (EInv.b HE.out (HC.out.trans hC))).mono (fun e w' hU => Or.inl ⟨hU.1, rfl, hU.2.1, hU.2.2.1, HCs.out.trans ((Ch.sm (HC.out.trans hC)).trans hU.2.2.2)⟩)) (fun hn => absurd (T1.out.symm.trans hn) (by decide))).mono ?_
        rintro e w1 ⟨rfl, hP, hE, hC⟩
        have HP2 := Aside0.mk hP
        have HE2 := Aside0.mk hE
        have HCs2 := Aside0.mk hC
        have HR := Aside0.mk hr2
        clear HP HE HCs HC hP hE hC hy hr2 HR5 c11 f11
        go_wp2
        go_roundg k1
        case measure => have := HK1.out; omega
        case rel => exact ⟨_, _, HR, ⟨by have := HK1.out; omega⟩, HP2, HE2, HCs2⟩
      ·by_cases t2 : (Pm.now X.e s').f2.toList = Pm.wOption.toList
       ·have hr3 := HR.out; rw [if_neg (fun h => t1 h.2), if_pos ⟨kd, t2⟩] at hr3; clear HR; have HR := Aside0.mk hr3; clear hr3
        obtain rfl := Option.some.inj (show some (Pm.fail (α := PEnum) X.e 52 s') = some r from HR.out)
        have t2' : (Pm.now X.e s').f2.toList = ([111, 112, 116, 105, 111, 110] : List UInt8) := t2.trans (by simp [Pm.wOption, go_sem])
        have T2 := Aside0.mk t2'
        clear t1 t2 t2' HR kd
        go_wp2_with fail
        refine (startedE_calls b gt X s' (.pointer (some ⟨we.heap.size, 0, none⟩)) (fun e w' => e = thrown 52 (Pm.now X.e s').f1 ∧ Ch (· = b) W w') w1 HP.out HTb.out HT.out.2.1 (fun hm => absurd T2.out.symm (hm _ (by simp [wordsE]))) (fun hn => absurd (T2.out.symm.trans hn) (by decide)) (fun _ w' hC => ⟨rfl, Ch.fin (HCs.out.trans (Ch.sm (HC.out.trans hC))) HBase.out⟩)).mono ?_
        rintro e w1 ⟨rfl, hC⟩
        exact ⟨rfl, rfl, hC⟩
       ·have hr3 := HR.out; rw [if_neg (fun h => t1 h.2), if_neg (fun h => t2 h.2)] at hr3; clear HR; have HR := Aside0.mk hr3; clear hr3
        have T1 := Aside0.mk (show (Pm.now X.e s').f2.toList ≠ ([114, 101, 115, 101, 114, 118, 101, 100] : List UInt8) from fun e => t1 (e.trans (by simp [Pm.wReserved, go_sem])))
        have T2 := Aside0.mk (show (Pm.now X.e s').f2.toList ≠ ([111, 112, 116, 105, 111, 110] : List UInt8) from fun e => t2 (e.trans (by simp [Pm.wOption, go_sem])))
        clear t1 t2 kd
        go_wp2_with fail
        refine (startedE_calls b gt X s' (.pointer (some ⟨we.heap.size, 0, none⟩)) (fun e w' => e = .returned (.bool false) ∧ PAt b X w' s' ∧ Ch (· = b) w1 w') w1 HP.out HTb.out HT.out.2.1 (fun _ w' hP hC => ⟨rfl, hP, hC⟩) (fun hn => absurd hn T1.out) (fun hn => absurd hn T2.out)).mono ?_
        rintro e w1 ⟨rfl, hP, hC⟩
        have n0_ := Aside0.mk hP
        have n1_ := Aside0.mk (HC.out.trans hC)
        clear hP hC HP HC c11 f11 hlt HTb
        have HP := n0_
        have HC := n1_
        clear n0_ n1_
        have hr3 := HR.out; rw [bo_assoc] at hr3; clear HR; have HR := Aside0.mk hr3; clear hr3
        go_wp2_with fail
        rcases bo_cases HR.out with ⟨y, hy, hr2⟩ | ⟨n, s1, hy, hr2⟩; (clear HR; subst hr2; refine (named_calls b X k1 s' _ hy _ (by with_reducible repeat (first | exact HP.out | apply PAt.al | apply PAt.dn | apply PAt.dr | refine PAt.st ?_ ⟨HG.out.1, HG.out.2.1⟩ _))).mono ?_; rintro e w1 ⟨rfl, hC⟩; exact ⟨rfl, rfl, Ch.fin (HCs.out.trans (Ch.sm (Ch.trans (by with_reducible repeat (first | exact HC.out | apply Ch.alloc | apply Ch.drewN | apply Ch.drew | refine Ch.stg ?_ HG.out.2.2 _)) hC))) HBase.out⟩); ((try dsimp only at hr2); clear HR; have HR := Aside0.mk hr2; clear hr2; refine (named_calls b X k1 s' _ hy _ (by with_reducible repeat (first | exact HP.out | apply PAt.al | apply PAt.dn | apply PAt.dr | refine PAt.st ?_ ⟨HG.out.1, HG.out.2.1⟩ _))).mono ?_; rintro e w1 ⟨rfl, hP, hC⟩; have n0_ := Aside0.mk hP; have n1_ := Aside0.mk (Ch.trans (by with_reducible repeat (first | exact HC.out | apply Ch.alloc | apply Ch.drewN | apply Ch.drew | refine Ch.stg ?_ HG.out.2.2 _)) hC); clear hP hC hy; (try clear HP); clear HC; have HP := n0_; have HC := n1_; clear n0_ n1_)
        clear HG
        have HG := Aside0.mk (show b < w1.heap.size ∧ X.B ≤ b ∧ wr.heap.size ≤ w1.heap.size from ⟨HP.out.lt, HP.out.ge, HC.out.size⟩)
        have HX := Aside0.mk (blk_new w1 (.cells #[.string n, .int .i64 0] 79))
        have hr3 := HR.out; rw [bo_assoc] at hr3; clear HR; have HR := Aside0.mk hr3; clear hr3
        go_wp2_with fail
        rcases bo_cases HR.out with ⟨y, hy, hr2⟩ | ⟨⟨⟩, s2, hy, hr2⟩; (clear HR; subst hr2; refine (counts_calls b X s1 _ (by with_reducible repeat (first | exact HP.out | apply PAt.al | apply PAt.dn | apply PAt.dr | refine PAt.st ?_ ⟨HG.out.1, HG.out.2.1⟩ _))).mono ?_; rintro e w1 hU; rw [(Option.some.inj hy : Pm.counts X.e s1 = _)] at hU; obtain ⟨rfl, hC⟩ := hU; exact ⟨rfl, rfl, Ch.fin (HCs.out.trans (Ch.sm (Ch.trans (by with_reducible repeat (first | exact HC.out | apply Ch.alloc | apply Ch.drewN | apply Ch.drew | refine Ch.stg ?_ HG.out.2.2 _)) hC))) HBase.out⟩); ((try dsimp only at hr2); clear HR; have HR := Aside0.mk hr2; clear hr2; refine (counts_calls b X s1 _ (by with_reducible repeat (first | exact HP.out | apply PAt.al | apply PAt.dn | apply PAt.dr | refine PAt.st ?_ ⟨HG.out.1, HG.out.2.1⟩ _))).mono ?_; rintro e w1 hU; rw [(Option.some.inj hy : Pm.counts X.e s1 = _)] at hU; obtain ⟨rfl, hP, hC⟩ := hU; have n0_ := Aside0.mk hP; have n1_ := Aside0.mk (Ch.trans (by with_reducible repeat (first | exact HC.out | apply Ch.alloc | apply Ch.drewN | apply Ch.drew | refine Ch.stg ?_ HG.out.2.2 _)) hC); have nx_ := Aside0.mk ((hC.block _ (pcell (HX.out)).2.2 (fun e_ => Nat.ne_of_gt HG.out.1 e_)).trans (HX.out)); clear hP hC hy; (try clear HP); clear HC; have HP := n0_; have HC := n1_; clear n0_ n1_; (try clear HX); have HX := nx_; clear nx_)
        go_wp2_with fail
        refine (next_calls b X s2 _ (by with_reducible repeat (first | exact HP.out | apply PAt.al | apply PAt.dn | apply PAt.dr | refine PAt.st ?_ ⟨HG.out.1, HG.out.2.1⟩ _))).mono ?_; rintro e w1 ⟨rfl, hP, hC⟩; have n0_ := Aside0.mk hP; have n1_ := Aside0.mk (Ch.trans (by with_reducible repeat (first | exact HC.out | apply Ch.alloc | apply Ch.drewN | apply Ch.drew | refine Ch.stg ?_ HG.out.2.2 _)) hC); have nx_ := Aside0.mk ((hC.block _ (pcell (HX.out)).2.2 (fun e_ => Nat.ne_of_gt HG.out.1 e_)).trans (HX.out)); clear HP HC hP hC; have HP := n0_; have HC := n1_; clear n0_ n1_; (try clear HX); have HX := nx_; clear nx_
        have hr3 := HR.out; rw [bo_assoc] at hr3; clear HR; have HR := Aside0.mk hr3; clear hr3
        go_wp2_with fail
        rcases bo_cases HR.out with ⟨y, hy, hr2⟩ | ⟨⟨⟩, s3, hy, hr2⟩; (clear HR; subst hr2; refine (sign_calls b X Pm.wEq (Pm.nxt s2) _ (by with_reducible repeat (first | exact HP.out | apply PAt.al | apply PAt.dn | apply PAt.dr | refine PAt.st ?_ ⟨HG.out.1, HG.out.2.1⟩ _))).mono ?_; rintro e w1 hU; rw [(Option.some.inj hy : Pm.sign X.e Pm.wEq (Pm.nxt s2) = _)] at hU; obtain ⟨rfl, hC⟩ := hU; exact ⟨rfl, rfl, Ch.fin (HCs.out.trans (Ch.sm (Ch.trans (by with_reducible repeat (first | exact HC.out | apply Ch.alloc | apply Ch.drewN | apply Ch.drew | refine Ch.stg ?_ HG.out.2.2 _)) hC))) HBase.out⟩); ((try dsimp only at hr2); clear HR; have HR := Aside0.mk hr2; clear hr2; refine (sign_calls b X Pm.wEq (Pm.nxt s2) _ (by with_reducible repeat (first | exact HP.out | apply PAt.al | apply PAt.dn | apply PAt.dr | refine PAt.st ?_ ⟨HG.out.1, HG.out.2.1⟩ _))).mono ?_; rintro e w1 hU; rw [(Option.some.inj hy : Pm.sign X.e Pm.wEq (Pm.nxt s2) = _)] at hU; obtain ⟨rfl, hP, hC⟩ := hU; have n0_ := Aside0.mk hP; have n1_ := Aside0.mk (Ch.trans (by with_reducible repeat (first | exact HC.out | apply Ch.alloc | apply Ch.drewN | apply Ch.drew | refine Ch.stg ?_ HG.out.2.2 _)) hC); have nx_ := Aside0.mk ((hC.block _ (pcell (HX.out)).2.2 (fun e_ => Nat.ne_of_gt HG.out.1 e_)).trans (HX.out)); clear hP hC hy; (try clear HP); clear HC; have HP := n0_; have HC := n1_; clear n0_ n1_; (try clear HX); have HX := nx_; clear nx_)
        go_wp2_with fail
        rcases hm : Pm.minus X.e true (s3) with ⟨mg, s4⟩; have hr2 := HR.out; rw [hm] at hr2; clear HR; have HR := Aside0.mk hr2; clear hr2; have hmc := minus_calls b X true (s3) _ (by with_reducible repeat (first | exact HP.out | apply PAt.al | apply PAt.dn | apply PAt.dr | refine PAt.st ?_ ⟨HG.out.1, HG.out.2.1⟩ _)); rw [hm] at hmc; clear hm; refine hmc.mono ?_; clear hmc; rintro e w1 ⟨rfl, hP, hC⟩; have n0_ := Aside0.mk hP; have n1_ := Aside0.mk (Ch.trans (by with_reducible repeat (first | exact HC.out | apply Ch.alloc | apply Ch.drewN | apply Ch.drew | refine Ch.stg ?_ HG.out.2.2 _)) hC); have nx_ := Aside0.mk ((hC.block _ (pcell (HX.out)).2.2 (fun e_ => Nat.ne_of_gt HG.out.1 e_)).trans (HX.out)); clear HX; have HX := nx_; clear nx_; clear HP HC hP hC; have HP := n0_; have HC := n1_; clear n0_ n1_
        have hr3 := HR.out; rw [bo_assoc] at hr3; clear HR; have HR := Aside0.mk hr3; clear hr3
        go_wp2_with fail
        rcases bo_cases HR.out with ⟨y, hy, hr2⟩ | ⟨v, s5, hy, hr2⟩; (clear HR; subst hr2; refine (number_calls b X k1 mg s4 _ hy _ (by with_reducible repeat (first | exact HP.out | apply PAt.al | apply PAt.dn | apply PAt.dr | refine PAt.st ?_ ⟨HG.out.1, HG.out.2.1⟩ _))).mono ?_; rintro e w1 ⟨rfl, hC⟩; exact ⟨rfl, rfl, Ch.fin (HCs.out.trans (Ch.sm (Ch.trans (by with_reducible repeat (first | exact HC.out | apply Ch.alloc | apply Ch.drewN | apply Ch.drew | refine Ch.stg ?_ HG.out.2.2 _)) hC))) HBase.out⟩); ((try dsimp only at hr2); clear HR; have HR := Aside0.mk hr2; clear hr2; refine (number_calls b X k1 mg s4 _ hy _ (by with_reducible repeat (first | exact HP.out | apply PAt.al | apply PAt.dn | apply PAt.dr | refine PAt.st ?_ ⟨HG.out.1, HG.out.2.1⟩ _))).mono ?_; rintro e w1 ⟨rfl, hP, hC⟩; have n0_ := Aside0.mk hP; have n1_ := Aside0.mk (Ch.trans (by with_reducible repeat (first | exact HC.out | apply Ch.alloc | apply Ch.drewN | apply Ch.drew | refine Ch.stg ?_ HG.out.2.2 _)) hC); have nx_ := Aside0.mk ((hC.block _ (pcell (HX.out)).2.2 (fun e_ => Nat.ne_of_gt HG.out.1 e_)).trans (HX.out)); clear hP hC hy; (try clear HP); clear HC; have HP := n0_; have HC := n1_; clear n0_ n1_; (try clear HX); have HX := nx_; clear nx_)
        obtain ⟨bx1, bxf, bx3⟩ := pcell HX.out; have x0 := bx1 0 _ rfl; have f0 := bxf 0; have x1 := bx1 1 _ rfl; have f1 := bxf 1; clear bx1 bxf
        go_wp2_with fail
        clear bx3 x0 f0 x1 f1
        refine (next_calls b X s5 _ (by with_reducible repeat (first | exact HP.out | apply PAt.al | apply PAt.dn | apply PAt.dr | refine PAt.st ?_ ⟨HG.out.1, HG.out.2.1⟩ _))).mono ?_; rintro e w1 ⟨rfl, hP, hC⟩; have n0_ := Aside0.mk hP; have n1_ := Aside0.mk (Ch.trans (by with_reducible repeat (first | exact HC.out | apply Ch.alloc | apply Ch.drewN | apply Ch.drew | refine Ch.stg ?_ HG.out.2.2 _)) hC); have nx_ := Aside0.mk ((hC.block _ (pcell (pset HX.out 1 _)).2.2 (fun e_ => Nat.ne_of_gt HG.out.1 e_)).trans (pset HX.out 1 _)); clear HP HC hP hC; have HP := n0_; have HC := n1_; clear n0_ n1_; (try clear HX); have HX := nx_; clear nx_
        have hr3 := HR.out; rw [bo_assoc] at hr3; clear HR; have HR := Aside0.mk hr3; clear hr3
        go_wp2_with fail
        rcases bo_cases HR.out with ⟨y, hy, hr2⟩ | ⟨⟨⟩, s6, hy, hr2⟩; (clear HR; subst hr2; refine (closes_calls b X (Pm.nxt s5) _ (by with_reducible repeat (first | exact HP.out | apply PAt.al | apply PAt.dn | apply PAt.dr | refine PAt.st ?_ ⟨HG.out.1, HG.out.2.1⟩ _))).mono ?_; rintro e w1 hU; rw [(Option.some.inj hy : Pm.closes X.e (Pm.nxt s5) = _)] at hU; obtain ⟨rfl, hC⟩ := hU; exact ⟨rfl, rfl, Ch.fin (HCs.out.trans (Ch.sm (Ch.trans (by with_reducible repeat (first | exact HC.out | apply Ch.alloc | apply Ch.drewN | apply Ch.drew | refine Ch.stg ?_ HG.out.2.2 _)) hC))) HBase.out⟩); ((try dsimp only at hr2); clear HR; have HR := Aside0.mk hr2; clear hr2; refine (closes_calls b X (Pm.nxt s5) _ (by with_reducible repeat (first | exact HP.out | apply PAt.al | apply PAt.dn | apply PAt.dr | refine PAt.st ?_ ⟨HG.out.1, HG.out.2.1⟩ _))).mono ?_; rintro e w1 hU; rw [(Option.some.inj hy : Pm.closes X.e (Pm.nxt s5) = _)] at hU; obtain ⟨rfl, hP, hC⟩ := hU; have n0_ := Aside0.mk hP; have n1_ := Aside0.mk (Ch.trans (by with_reducible repeat (first | exact HC.out | apply Ch.alloc | apply Ch.drewN | apply Ch.drew | refine Ch.stg ?_ HG.out.2.2 _)) hC); have nx_ := Aside0.mk ((hC.block _ (pcell (HX.out)).2.2 (fun e_ => Nat.ne_of_gt HG.out.1 e_)).trans (HX.out)); clear hP hC hy; (try clear HP); clear HC; have HP := n0_; have HC := n1_; clear n0_ n1_; (try clear HX); have HX := nx_; clear nx_)
        have hl2 : x'.f1.length < 1099511627776 := Decidable.byContradiction (fun cl => absurd HR.out (by rw [if_neg cl]; simp [Pm.bo]))
        have hr3 := HR.out; rw [if_pos hl2] at hr3; clear HR; have HR := Aside0.mk hr3; clear hr3
        have HL := Aside0.mk hl2
        clear hl2
        have HX2 := Aside0.mk (show w1.heap[_]? = some (Obj.cells #[.string n, .int .i64 v] 79) from HX.out)
        clear HX
        have HX := HX2
        clear HX2
        obtain ⟨v1, L, h1, hr1, hf1, hbs1, hn1⟩ := EInv.app1 (EInv.b HE.out HC.out)
        have q1 : w1.cell? ⟨we.heap.size, 1, none⟩ = some v1 := h1.1
        have g1 : w1.frozen? ⟨we.heap.size, 1, none⟩ = false := h1.2.1 1
        have l1 : we.heap.size < w1.heap.size := h1.2.2
        have HR1 := Aside0.mk hr1
        have HF1 := Aside0.mk hf1
        have HS1 := Aside0.mk hbs1
        have HN1 := Aside0.mk hn1
        clear h1 hr1 hf1 hbs1 hn1
        obtain ⟨bx1, bxf, bx3⟩ := pcell HX.out; have x0 := bx1 0 _ rfl; have f0 := bxf 0; have x1 := bx1 1 _ rfl; have f1 := bxf 1; clear bx1 bxf
        go_wp2_with (((with_reducible refine gate_builtin (b := .append) (xs := #[.tmp 38, .tmp 40]) rfl ?_); at_builtin; refine Kd.R_append k79 (w0 := w1) base rfl (.tmp 38) (.tmp 40) 75 79 (.agg #[(.string ⟨#[]⟩), (.int .i64 0)]) 24 rfl Tryd.underlying75 info_val rfl (by decide) (by omega) v1 x'.f1 (⟨n, v⟩ : PValue) [.string n, .int .i64 v] (okL we.heap.size b L) (fun _ => False) rfl rfl (k79_mkM _ _ _ (⟨n, v⟩ : PValue)) (fun _ hk => hk.elim) HF1.out HR1.out (Below.refl _ _) HS1.out (by have := HL.out; omega) ?_; intro v9 w9 ho hb hg hat; obtain ⟨A9, n9, c9, rfl⟩ := R_slice3 ho; obtain ⟨h9, hm9, hc9⟩ := HN1.out _ _ _ ho hg hat; have HE9 := Aside0.mk hm9; have HC9 := Aside0.mk hc9; have q9 : w9.cell? ⟨we.heap.size, 1, none⟩ = some v1 := h9.1; have g9 : w9.frozen? ⟨we.heap.size, 1, none⟩ = false := h9.2.1 1; clear ho hb hg hat h9 hm9 hc9))
        have HP2 := Aside0.mk (PAt.far HP.out HC9.out HE.out.lt.2.2)
        have HCs2 := Aside0.mk (HCs.out.trans ((Ch.sm HC.out).trans HC9.out.far))
        clear HP HE HC HCs HC9
        go_roundg k1
        case measure => have := HK1.out; omega
        case rel => exact ⟨_, _, ⟨HR.out⟩, ⟨by have := HK1.out; omega⟩, HP2, HE9, HCs2⟩
     ·have hr3 := HR.out; rw [if_neg (fun h => kd h.1), if_neg (fun h => kd h.1)] at hr3; clear HR; have HR := Aside0.mk hr3; clear hr3
      have kb : ((Pm.now X.e s').f0 == 1) = false := beq_eq_false_iff_ne.mpr kd
      clear kd
      have hr3 := HR.out; rw [bo_assoc] at hr3; clear HR; have HR := Aside0.mk hr3; clear hr3
      go_wp2_with fail
      rcases bo_cases HR.out with ⟨y, hy, hr2⟩ | ⟨n, s1, hy, hr2⟩; (clear HR; subst hr2; refine (named_calls b X k1 s' _ hy _ (by with_reducible repeat (first | exact HP.out | apply PAt.al | apply PAt.dn | apply PAt.dr | refine PAt.st ?_ ⟨HG.out.1, HG.out.2.1⟩ _))).mono ?_; rintro e w1 ⟨rfl, hC⟩; exact ⟨rfl, rfl, Ch.fin (HCs.out.trans (Ch.sm (Ch.trans (by with_reducible repeat (first | exact HC.out | apply Ch.alloc | apply Ch.drewN | apply Ch.drew | refine Ch.stg ?_ HG.out.2.2 _)) hC))) HBase.out⟩); ((try dsimp only at hr2); clear HR; have HR := Aside0.mk hr2; clear hr2; refine (named_calls b X k1 s' _ hy _ (by with_reducible repeat (first | exact HP.out | apply PAt.al | apply PAt.dn | apply PAt.dr | refine PAt.st ?_ ⟨HG.out.1, HG.out.2.1⟩ _))).mono ?_; rintro e w1 ⟨rfl, hP, hC⟩; have n0_ := Aside0.mk hP; have n1_ := Aside0.mk (Ch.trans (by with_reducible repeat (first | exact HC.out | apply Ch.alloc | apply Ch.drewN | apply Ch.drew | refine Ch.stg ?_ HG.out.2.2 _)) hC); clear hP hC hy; (try clear HP); clear HC; have HP := n0_; have HC := n1_; clear n0_ n1_)
      clear HG
      have HG := Aside0.mk (show b < w1.heap.size ∧ X.B ≤ b ∧ wr.heap.size ≤ w1.heap.size from ⟨HP.out.lt, HP.out.ge, HC.out.size⟩)
      have HX := Aside0.mk (blk_new w1 (.cells #[.string n, .int .i64 0] 79))
      have hr3 := HR.out; rw [bo_assoc] at hr3; clear HR; have HR := Aside0.mk hr3; clear hr3
      go_wp2_with fail
      rcases bo_cases HR.out with ⟨y, hy, hr2⟩ | ⟨⟨⟩, s2, hy, hr2⟩; (clear HR; subst hr2; refine (counts_calls b X s1 _ (by with_reducible repeat (first | exact HP.out | apply PAt.al | apply PAt.dn | apply PAt.dr | refine PAt.st ?_ ⟨HG.out.1, HG.out.2.1⟩ _))).mono ?_; rintro e w1 hU; rw [(Option.some.inj hy : Pm.counts X.e s1 = _)] at hU; obtain ⟨rfl, hC⟩ := hU; exact ⟨rfl, rfl, Ch.fin (HCs.out.trans (Ch.sm (Ch.trans (by with_reducible repeat (first | exact HC.out | apply Ch.alloc | apply Ch.drewN | apply Ch.drew | refine Ch.stg ?_ HG.out.2.2 _)) hC))) HBase.out⟩); ((try dsimp only at hr2); clear HR; have HR := Aside0.mk hr2; clear hr2; refine (counts_calls b X s1 _ (by with_reducible repeat (first | exact HP.out | apply PAt.al | apply PAt.dn | apply PAt.dr | refine PAt.st ?_ ⟨HG.out.1, HG.out.2.1⟩ _))).mono ?_; rintro e w1 hU; rw [(Option.some.inj hy : Pm.counts X.e s1 = _)] at hU; obtain ⟨rfl, hP, hC⟩ := hU; have n0_ := Aside0.mk hP; have n1_ := Aside0.mk (Ch.trans (by with_reducible repeat (first | exact HC.out | apply Ch.alloc | apply Ch.drewN | apply Ch.drew | refine Ch.stg ?_ HG.out.2.2 _)) hC); have nx_ := Aside0.mk ((hC.block _ (pcell (HX.out)).2.2 (fun e_ => Nat.ne_of_gt HG.out.1 e_)).trans (HX.out)); clear hP hC hy; (try clear HP); clear HC; have HP := n0_; have HC := n1_; clear n0_ n1_; (try clear HX); have HX := nx_; clear nx_)
      go_wp2_with fail
      refine (next_calls b X s2 _ (by with_reducible repeat (first | exact HP.out | apply PAt.al | apply PAt.dn | apply PAt.dr | refine PAt.st ?_ ⟨HG.out.1, HG.out.2.1⟩ _))).mono ?_; rintro e w1 ⟨rfl, hP, hC⟩; have n0_ := Aside0.mk hP; have n1_ := Aside0.mk (Ch.trans (by with_reducible repeat (first | exact HC.out | apply Ch.alloc | apply Ch.drewN | apply Ch.drew | refine Ch.stg ?_ HG.out.2.2 _)) hC); have nx_ := Aside0.mk ((hC.block _ (pcell (HX.out)).2.2 (fun e_ => Nat.ne_of_gt HG.out.1 e_)).trans (HX.out)); clear HP HC hP hC; have HP := n0_; have HC := n1_; clear n0_ n1_; (try clear HX); have HX := nx_; clear nx_
      have hr3 := HR.out; rw [bo_assoc] at hr3; clear HR; have HR := Aside0.mk hr3; clear hr3
      go_wp2_with fail
      rcases bo_cases HR.out with ⟨y, hy, hr2⟩ | ⟨⟨⟩, s3, hy, hr2⟩; (clear HR; subst hr2; refine (sign_calls b X Pm.wEq (Pm.nxt s2) _ (by with_reducible repeat (first | exact HP.out | apply PAt.al | apply PAt.dn | apply PAt.dr | refine PAt.st ?_ ⟨HG.out.1, HG.out.2.1⟩ _))).mono ?_; rintro e w1 hU; rw [(Option.some.inj hy : Pm.sign X.e Pm.wEq (Pm.nxt s2) = _)] at hU; obtain ⟨rfl, hC⟩ := hU; exact ⟨rfl, rfl, Ch.fin (HCs.out.trans (Ch.sm (Ch.trans (by with_reducible repeat (first | exact HC.out | apply Ch.alloc | apply Ch.drewN | apply Ch.drew | refine Ch.stg ?_ HG.out.2.2 _)) hC))) HBase.out⟩); ((try dsimp only at hr2); clear HR; have HR := Aside0.mk hr2; clear hr2; refine (sign_calls b X Pm.wEq (Pm.nxt s2) _ (by with_reducible repeat (first | exact HP.out | apply PAt.al | apply PAt.dn | apply PAt.dr | refine PAt.st ?_ ⟨HG.out.1, HG.out.2.1⟩ _))).mono ?_; rintro e w1 hU; rw [(Option.some.inj hy : Pm.sign X.e Pm.wEq (Pm.nxt s2) = _)] at hU; obtain ⟨rfl, hP, hC⟩ := hU; have n0_ := Aside0.mk hP; have n1_ := Aside0.mk (Ch.trans (by with_reducible repeat (first | exact HC.out | apply Ch.alloc | apply Ch.drewN | apply Ch.drew | refine Ch.stg ?_ HG.out.2.2 _)) hC); have nx_ := Aside0.mk ((hC.block _ (pcell (HX.out)).2.2 (fun e_ => Nat.ne_of_gt HG.out.1 e_)).trans (HX.out)); clear hP hC hy; (try clear HP); clear HC; have HP := n0_; have HC := n1_; clear n0_ n1_; (try clear HX); have HX := nx_; clear nx_)
      go_wp2_with fail
      rcases hm : Pm.minus X.e true (s3) with ⟨mg, s4⟩; have hr2 := HR.out; rw [hm] at hr2; clear HR; have HR := Aside0.mk hr2; clear hr2; have hmc := minus_calls b X true (s3) _ (by with_reducible repeat (first | exact HP.out | apply PAt.al | apply PAt.dn | apply PAt.dr | refine PAt.st ?_ ⟨HG.out.1, HG.out.2.1⟩ _)); rw [hm] at hmc; clear hm; refine hmc.mono ?_; clear hmc; rintro e w1 ⟨rfl, hP, hC⟩; have n0_ := Aside0.mk hP; have n1_ := Aside0.mk (Ch.trans (by with_reducible repeat (first | exact HC.out | apply Ch.alloc | apply Ch.drewN | apply Ch.drew | refine Ch.stg ?_ HG.out.2.2 _)) hC); have nx_ := Aside0.mk ((hC.block _ (pcell (HX.out)).2.2 (fun e_ => Nat.ne_of_gt HG.out.1 e_)).trans (HX.out)); clear HX; have HX := nx_; clear nx_; clear HP HC hP hC; have HP := n0_; have HC := n1_; clear n0_ n1_
      have hr3 := HR.out; rw [bo_assoc] at hr3; clear HR; have HR := Aside0.mk hr3; clear hr3
      go_wp2_with fail
      rcases bo_cases HR.out with ⟨y, hy, hr2⟩ | ⟨v, s5, hy, hr2⟩; (clear HR; subst hr2; refine (number_calls b X k1 mg s4 _ hy _ (by with_reducible repeat (first | exact HP.out | apply PAt.al | apply PAt.dn | apply PAt.dr | refine PAt.st ?_ ⟨HG.out.1, HG.out.2.1⟩ _))).mono ?_; rintro e w1 ⟨rfl, hC⟩; exact ⟨rfl, rfl, Ch.fin (HCs.out.trans (Ch.sm (Ch.trans (by with_reducible repeat (first | exact HC.out | apply Ch.alloc | apply Ch.drewN | apply Ch.drew | refine Ch.stg ?_ HG.out.2.2 _)) hC))) HBase.out⟩); ((try dsimp only at hr2); clear HR; have HR := Aside0.mk hr2; clear hr2; refine (number_calls b X k1 mg s4 _ hy _ (by with_reducible repeat (first | exact HP.out | apply PAt.al | apply PAt.dn | apply PAt.dr | refine PAt.st ?_ ⟨HG.out.1, HG.out.2.1⟩ _))).mono ?_; rintro e w1 ⟨rfl, hP, hC⟩; have n0_ := Aside0.mk hP; have n1_ := Aside0.mk (Ch.trans (by with_reducible repeat (first | exact HC.out | apply Ch.alloc | apply Ch.drewN | apply Ch.drew | refine Ch.stg ?_ HG.out.2.2 _)) hC); have nx_ := Aside0.mk ((hC.block _ (pcell (HX.out)).2.2 (fun e_ => Nat.ne_of_gt HG.out.1 e_)).trans (HX.out)); clear hP hC hy; (try clear HP); clear HC; have HP := n0_; have HC := n1_; clear n0_ n1_; (try clear HX); have HX := nx_; clear nx_)
      obtain ⟨bx1, bxf, bx3⟩ := pcell HX.out; have x0 := bx1 0 _ rfl; have f0 := bxf 0; have x1 := bx1 1 _ rfl; have f1 := bxf 1; clear bx1 bxf
      go_wp2_with fail
      clear bx3 x0 f0 x1 f1
      refine (next_calls b X s5 _ (by with_reducible repeat (first | exact HP.out | apply PAt.al | apply PAt.dn | apply PAt.dr | refine PAt.st ?_ ⟨HG.out.1, HG.out.2.1⟩ _))).mono ?_; rintro e w1 ⟨rfl, hP, hC⟩; have n0_ := Aside0.mk hP; have n1_ := Aside0.mk (Ch.trans (by with_reducible repeat (first | exact HC.out | apply Ch.alloc | apply Ch.drewN | apply Ch.drew | refine Ch.stg ?_ HG.out.2.2 _)) hC); have nx_ := Aside0.mk ((hC.block _ (pcell (pset HX.out 1 _)).2.2 (fun e_ => Nat.ne_of_gt HG.out.1 e_)).trans (pset HX.out 1 _)); clear HP HC hP hC; have HP := n0_; have HC := n1_; clear n0_ n1_; (try clear HX); have HX := nx_; clear nx_
      have hr3 := HR.out; rw [bo_assoc] at hr3; clear HR; have HR := Aside0.mk hr3; clear hr3
      go_wp2_with fail
      rcases bo_cases HR.out with ⟨y, hy, hr2⟩ | ⟨⟨⟩, s6, hy, hr2⟩; (clear HR; subst hr2; refine (closes_calls b X (Pm.nxt s5) _ (by with_reducible repeat (first | exact HP.out | apply PAt.al | apply PAt.dn | apply PAt.dr | refine PAt.st ?_ ⟨HG.out.1, HG.out.2.1⟩ _))).mono ?_; rintro e w1 hU; rw [(Option.some.inj hy : Pm.closes X.e (Pm.nxt s5) = _)] at hU; obtain ⟨rfl, hC⟩ := hU; exact ⟨rfl, rfl, Ch.fin (HCs.out.trans (Ch.sm (Ch.trans (by with_reducible repeat (first | exact HC.out | apply Ch.alloc | apply Ch.drewN | apply Ch.drew | refine Ch.stg ?_ HG.out.2.2 _)) hC))) HBase.out⟩); ((try dsimp only at hr2); clear HR; have HR := Aside0.mk hr2; clear hr2; refine (closes_calls b X (Pm.nxt s5) _ (by with_reducible repeat (first | exact HP.out | apply PAt.al | apply PAt.dn | apply PAt.dr | refine PAt.st ?_ ⟨HG.out.1, HG.out.2.1⟩ _))).mono ?_; rintro e w1 hU; rw [(Option.some.inj hy : Pm.closes X.e (Pm.nxt s5) = _)] at hU; obtain ⟨rfl, hP, hC⟩ := hU; have n0_ := Aside0.mk hP; have n1_ := Aside0.mk (Ch.trans (by with_reducible repeat (first | exact HC.out | apply Ch.alloc | apply Ch.drewN | apply Ch.drew | refine Ch.stg ?_ HG.out.2.2 _)) hC); have nx_ := Aside0.mk ((hC.block _ (pcell (HX.out)).2.2 (fun e_ => Nat.ne_of_gt HG.out.1 e_)).trans (HX.out)); clear hP hC hy; (try clear HP); clear HC; have HP := n0_; have HC := n1_; clear n0_ n1_; (try clear HX); have HX := nx_; clear nx_)
      have hl2 : x'.f1.length < 1099511627776 := Decidable.byContradiction (fun cl => absurd HR.out (by rw [if_neg cl]; simp [Pm.bo]))
      have hr3 := HR.out; rw [if_pos hl2] at hr3; clear HR; have HR := Aside0.mk hr3; clear hr3
      have HL := Aside0.mk hl2
      clear hl2
      have HX2 := Aside0.mk (show w1.heap[_]? = some (Obj.cells #[.string n, .int .i64 v] 79) from HX.out)
      clear HX
      have HX := HX2
      clear HX2
      obtain ⟨v1, L, h1, hr1, hf1, hbs1, hn1⟩ := EInv.app1 (EInv.b HE.out HC.out)
      have q1 : w1.cell? ⟨we.heap.size, 1, none⟩ = some v1 := h1.1
      have g1 : w1.frozen? ⟨we.heap.size, 1, none⟩ = false := h1.2.1 1
      have l1 : we.heap.size < w1.heap.size := h1.2.2
      have HR1 := Aside0.mk hr1
      have HF1 := Aside0.mk hf1
      have HS1 := Aside0.mk hbs1
      have HN1 := Aside0.mk hn1
      clear h1 hr1 hf1 hbs1 hn1
      obtain ⟨bx1, bxf, bx3⟩ := pcell HX.out; have x0 := bx1 0 _ rfl; have f0 := bxf 0; have x1 := bx1 1 _ rfl; have f1 := bxf 1; clear bx1 bxf
      go_wp2_with (((with_reducible refine gate_builtin (b := .append) (xs := #[.tmp 38, .tmp 40]) rfl ?_); at_builtin; refine Kd.R_append k79 (w0 := w1) base rfl (.tmp 38) (.tmp 40) 75 79 (.agg #[(.string ⟨#[]⟩), (.int .i64 0)]) 24 rfl Tryd.underlying75 info_val rfl (by decide) (by omega) v1 x'.f1 (⟨n, v⟩ : PValue) [.string n, .int .i64 v] (okL we.heap.size b L) (fun _ => False) rfl rfl (k79_mkM _ _ _ (⟨n, v⟩ : PValue)) (fun _ hk => hk.elim) HF1.out HR1.out (Below.refl _ _) HS1.out (by have := HL.out; omega) ?_; intro v9 w9 ho hb hg hat; obtain ⟨A9, n9, c9, rfl⟩ := R_slice3 ho; obtain ⟨h9, hm9, hc9⟩ := HN1.out _ _ _ ho hg hat; have HE9 := Aside0.mk hm9; have HC9 := Aside0.mk hc9; have q9 : w9.cell? ⟨we.heap.size, 1, none⟩ = some v1 := h9.1; have g9 : w9.frozen? ⟨we.heap.size, 1, none⟩ = false := h9.2.1 1; clear ho hb hg hat h9 hm9 hc9))
      have HP2 := Aside0.mk (PAt.far HP.out HC9.out HE.out.lt.2.2)
      have HCs2 := Aside0.mk (HCs.out.trans ((Ch.sm HC.out).trans HC9.out.far))
      clear HP HE HC HCs HC9
      go_roundg k1
      case measure => have := HK1.out; omega
      case rel => exact ⟨_, _, ⟨HR.out⟩, ⟨by have := HK1.out; omega⟩, HP2, HE9, HCs2⟩
theorem MInv.appW4 {base b bm : Nat} {W0 W : World} {m : PMsg} (hM : MInv base b bm W0 m) (hc : Ch (· = b) W0 W) : ∃ v L, (W.cell? ⟨bm, 4, none⟩ = some v ∧ (∀ j, W.frozen? ⟨bm, j, none⟩ = false) ∧ bm < W.heap.size) ∧ k77.R 77 W base (okL bm b L) v m.f4 ∧ (∀ k, W0.heap.size ≤ k → okL bm b L k ∧ some k ≠ v.ownBlock) ∧ base ≤ W.heap.size ∧ W0.cell? ⟨bm, 4, none⟩ = some v ∧
  ∀ w9 v9 l9, k77.R 77 w9 base (okL bm b L) v9 l9 → W.grownBy w9 v.ownBlock → (v9.ownBlock = v.ownBlock ∨ ∃ g, v9.ownBlock = some g ∧ W.heap.size ≤ g) →
   (w9.cell? ⟨bm, 4, none⟩ = some v ∧ (∀ j, w9.frozen? ⟨bm, j, none⟩ = false) ∧ bm < w9.heap.size) ∧ MInv base b bm (w9.setCell ⟨bm, 4, none⟩ v9) { m with f4 := l9 } ∧ Ch (fun k => base ≤ k) W (w9.setCell ⟨bm, 4, none⟩ v9) := by
 obtain ⟨v1, v2, v3, v4, v5, v6, h00, hb, q1, q2, q3, q4, q5, q6⟩ := hM
 have g00 := pcell h00
 have hblt : b < W0.heap.size := by have := g00.2.2; have := hb.1; omega
 have h0 := (hc.block bm g00.2.2 (fun e => by have := hb.1; have := hb.2; omega)).trans h00
 have r1 := row_ch q1 hc (fun k _ _ h _ => h)
 have r2 := row_ch q2 hc (fun k _ _ h _ => h)
 have r3 := row_ch q3 hc (fun k _ _ h _ => h)
 have r4 := row_ch q4 hc (fun k _ _ h _ => h)
 have r5 := row_ch q5 hc (fun k _ _ h _ => h)
 have r6 := row_ch q6 hc (fun k _ _ h _ => h)
 have g0 := pcell h0
 have hne : some bm ≠ v4.ownBlock := fun e => (r4.1 bm e.symm).1 rfl
 refine ⟨v4, [v1, v2, v3, v5, v6], ⟨g0.1 4 _ rfl, g0.2.1, g0.2.2⟩, r4, fun k hk => ⟨row_fresh g00.2.2 hblt ?_ k hk, fun e => by have := (row_lt q4 k e.symm).1; omega⟩, Nat.le_trans hb.1 (Nat.le_of_lt g0.2.2), g00.1 4 _ rfl, fun w9 v9 l9 r9 hg hat => ⟨?_, ?_, ?_⟩⟩
 ·intro v hv k hk
  simp only [List.mem_cons, List.not_mem_nil, or_false] at hv
  rcases hv with rfl | rfl | rfl | rfl | rfl
  all_goals first | exact (row_lt q1 k hk).1 | exact (row_lt q2 k hk).1 | exact (row_lt q3 k hk).1 | exact (row_lt q4 k hk).1 | exact (row_lt q5 k hk).1 | exact (row_lt q6 k hk).1
 ·have g9 := pcell ((hg.block bm g0.2.2 hne).trans h0)
  exact ⟨g9.1 4 _ rfl, g9.2.1, g9.2.2⟩
 ·exact MInv.app_enm h0 hb r1 r2 r3 r5 r6 r9 hg hat hne
 ·exact Ch.set (Ch.then_grown (Ch.refl _ W) hg (fun k _ e => (row_lt r4 k e).2)) (fun _ => hb.1) _
theorem M_enum {w : World} {base base' : Nat} {ok ok' : Nat → Prop} {x : PEnum} {v1 v2 v3 : Value} (h : k77.M w base ok x [.string x.f0, v1, v2, v3]) (hb : base' ≤ base) (hok : ∀ k, ok k → ok' k) : k77.M w base' ok' x [.string x.f0, v1, v2, v3] := by
 obtain ⟨u1, u2, u3, e, r1, r2, r3⟩ := k77_openM h
 simp only [List.cons.injEq, true_and, and_true] at e
 obtain ⟨rfl, rfl, rfl⟩ := e
 exact k77_mkM _ _ _ x (Kd.R_mono (Kd.R_lower r1 hb) hok) (Kd.R_mono (Kd.R_lower r2 hb) hok) (Kd.R_mono (Kd.R_lower r3 hb) hok)
set_option maxHeartbeats 4000000 in
set_option maxRecDepth 100000 in
theorem members2_calls (base b bm gt : Nat) (X : PFix) (k : Nat) (m : PMsg) (s : PS) (r : PR PMsg) (hr : (Pm.bo (Pm.enum k X.e s) fun x s => if m.f4.length < 1099511627776 then some (.ok ({ m with f4 := m.f4 ++ [x] }, s)) else none) = some r) (W : World) (h : PAt b X W s) (hM : MInv base b bm W m) (hT : TabE b gt X W) :
  Calls Tryd.prog 46 #[.pointer (some ⟨b, 0, none⟩), .pointer (some ⟨bm, 0, none⟩)] W (PostM base b bm X W r) := by
 have HP := Aside0.mk (PAt.dr h)
 have HT := Aside0.mk (show TabE b gt X W.drew from ⟨hT.1, hT.2.1, bx_dr hT.2.2⟩)
 have HM0 := Aside0.mk (MInv.b hM (Ch.drew (Ch.refl (· = b) W)))
 have HR := Aside0.mk hr
 obtain ⟨v0, L, h1, _, _, hbs1, _⟩ := MInv.app4 hM
 have q0 : W.cell? ⟨bm, 4, none⟩ = some v0 := h1.1
 have g0 : W.frozen? ⟨bm, 4, none⟩ = false := h1.2.1 4
 have l0 : bm < W.heap.size := h1.2.2
 have HQ0 := Aside0.mk q0
 have HBs := Aside0.mk hbs1
 clear h hM hT hr h1 hbs1
 go_enter Tryd.func46, Tryd.ntmps46
 go_wp2
 go_region_law (first | (refine Kd.R_append_step k77 (w0 := w1) (W := w1) base rfl (.tmp 8) (.tmp 11) 27 77 (.agg #[(.string ⟨#[]⟩), (.slice none 0 0), (.slice none 0 0), (.slice none 0 0)]) 88 rfl Tryd.underlying27 info_enm rfl (by decide) (by decide) v1 m.f4 x [.string x.f0, e1, e2, e3] (okL bm b L2) (fun k => W.drew.heap.size ≤ k) (by simp [Act.eval, Act.put]) (by simp [Act.eval, Act.put]) HMk.out (fun k hk => HF1.out k hk) (fun k hk => (HF1.out k (Nat.le_trans HC.out.size hk)).1) HR1.out (Below.refl _ _) HS1.out (by have := HL.out; omega) ?_; intro v9 w9 ho hb hg hat; obtain ⟨A9, n9, c9, rfl⟩ := R_slice3 ho; obtain ⟨h9, hm9, hc9⟩ := HN1.out _ _ _ ho hg hat; have HM9 := Aside0.mk hm9; have HC9 := Aside0.mk hc9; have q9 : w9.cell? ⟨bm, 4, none⟩ = some v1 := h9.1; have g9 : w9.frozen? ⟨bm, 4, none⟩ = false := h9.2.1 4; clear ho hb hg hat h9 hm9 hc9) | (go_simp; go_at_call 44; rcases bo_cases HR.out with ⟨y, hy, hr2⟩ | ⟨x, s1, hy, hr2⟩; (subst hr2; refine (enum_calls b gt X k s _ hy W.drew HP.out HT.out).mono ?_; rintro e w1 ⟨rfl, hC⟩; exact ⟨rfl, rfl, (Ch.sm ((Ch.drew (Ch.refl (· = b) W)).trans hC) : Ch (SM b base) W w1)⟩); (refine (enum_calls b gt X k s _ hy W.drew HP.out HT.out).mono ?_; rintro e w1 ⟨⟨e1, e2, e3, rfl, hMk⟩, hP, hC⟩; have hl2 : m.f4.length < 1099511627776 := Decidable.byContradiction (fun cl => absurd hr2 (by rw [if_neg cl]; simp)); rw [if_pos hl2] at hr2; obtain rfl := Option.some.inj hr2; have HL := Aside0.mk hl2; have HP1 := Aside0.mk hP; have HC := Aside0.mk hC; have HMk := Aside0.mk (M_enum hMk (base' := base) (ok' := fun k => W.drew.heap.size ≤ k) (Nat.le_trans HBs.out (Nat.le_succ _)) (fun k hk => Nat.le_of_lt hk)); obtain ⟨v1, L2, h1, hr1, hf1, hbs1, hq1, hn1⟩ := MInv.appW4 HM0.out hC; obtain rfl : v1 = v0 := Option.some.inj (hq1.symm.trans HQ0.out); have q1 : w1.cell? ⟨bm, 4, none⟩ = some v1 := h1.1; have g1 : w1.frozen? ⟨bm, 4, none⟩ = false := h1.2.1 4; have l1 : bm < w1.heap.size := h1.2.2; have HR1 := Aside0.mk hr1; have HF1 := Aside0.mk hf1; have HS1 := Aside0.mk hbs1; have HN1 := Aside0.mk hn1; clear h1 hr1 hf1 hbs1 hn1 hq1 hMk hP hC hl2 hr2 hy)))
 all_goals go_end0
 all_goals exact ⟨rfl, PAt.far HP1.out HC9.out HM0.out.lt.2.2, HM9.out, (Ch.sm ((Ch.drew (Ch.refl (· = b) W)).trans HC.out)).trans HC9.out.far⟩
def setL (W : World) (g : Nat) : Nat → List Value → World
 | _, [] => W
 | o, c :: cs => setL (W.setCell ⟨g, o, none⟩ c) g (o + 1) cs
def setLs : List Value → Nat → List Value → List Value
 | l, _, [] => l
 | l, o, c :: cs => setLs (l.set o c) (o + 1) cs
theorem setLs_eq : ∀ (cs l : List Value) (o : Nat), o + cs.length = l.length → setLs l o cs = l.take o ++ cs
 | [], l, o, h => by simp only [setLs, List.append_nil]; rw [List.take_of_length_le (by simp at h; omega)]
 | c :: cs, l, o, h => by
  simp only [List.length_cons] at h
  rw [setLs, setLs_eq cs (l.set o c) (o + 1) (by rw [List.length_set]; omega)]
  have hl : o < l.length := by omega
  rw [List.take_add_one, List.getElem?_set_self hl, List.take_set_of_le (Nat.le_refl _)]
  simp
theorem setL_own {e base g sz n cap : Nat} : ∀ (cs : List Value) (W : World) (o : Nat) (l : List Value), W.ownsRow base e sz (.slice (some ⟨g, 0, none⟩) n cap) n l → (setL W g o cs).ownsRow base e sz (.slice (some ⟨g, 0, none⟩) n cap) n (setLs l o cs) ∧ W.grownBy (setL W g o cs) (some g)
 | [], W, o, l, h => ⟨h, World.grownBy.refl _ _⟩
 | c :: cs, W, o, l, h => by
  obtain ⟨h1, g1⟩ := h.stored o c
  obtain ⟨h2, g2⟩ := setL_own cs (W.setCell ⟨g, o, none⟩ c) (o + 1) (l.set o c) h1
  exact ⟨h2, g1.trans g2⟩
theorem R_last {α : Type} {d : Kd α} {e base g n cap : Nat} {ok okp : Nat → Prop} {W : World} {xs : List α} {z p : α} {cs : List Value} (h : d.R e W base ok (.slice (some ⟨g, 0, none⟩) n cap) (xs ++ [z])) (hp : d.M W base okp p cs) (hokp : ∀ k, okp k → ok k ∧ k ≠ g) :
  d.R e (setL W g (xs.length * d.sz) cs) base ok (.slice (some ⟨g, 0, none⟩) n cap) (xs ++ [p]) ∧ W.grownBy (setL W g (xs.length * d.sz) cs) (some g) := by
 obtain ⟨h0, inner, ho, hr⟩ := h
 have hcs : cs.length = d.sz := d.K_len (d.K_of_M hp)
 have hn : n = xs.length + 1 := by
  obtain ⟨A, c, e1⟩ := own_slice ho
  injection e1 with _ e1 _
  rw [e1]; simp
 subst hn
 have hlen : inner.length = xs.length * d.sz + d.sz := by
  have := hr.1
  rw [List.length_append, List.length_singleton, Nat.add_mul, Nat.one_mul] at this
  exact this
 have ho' : W.ownsRow base e d.sz (.slice (some ⟨g, 0, none⟩) (xs.length + 1) cap) (xs.length + 1) inner := by simpa using ho
 obtain ⟨hs, hg⟩ := setL_own cs W (xs.length * d.sz) inner ho'
 rw [setLs_eq cs inner _ (by rw [hcs, hlen])] at hs
 have step : ∀ {q : α} {c : List Value} {o : Nat → Prop}, d.M W base o q c → (∀ k, o k → ok k ∧ k ≠ g) → d.M (setL W g (xs.length * d.sz) cs) base (fun k => ok k ∧ some k ≠ (Value.slice (some ⟨g, 0, none⟩) (xs.length + 1) cap).ownBlock) q c := by
  intro q c o hq hk
  have h1 := d.M_move (w1 := setL W g (xs.length * d.sz) cs) (fun k hk2 => hg.block k hk2.2.2.1 (fun e => (hk k hk2.1).2 (Option.some.inj e))) (d.M_bound hq)
  exact d.M_mono (fun k hk2 => ⟨(hk k hk2.1).1, fun e => (hk k hk2.1).2 (by simpa [Value.ownBlock] using e)⟩) h1
 refine ⟨⟨h0, inner.take (xs.length * d.sz) ++ cs, by simpa using hs, ?_⟩, hg⟩
 have h1 : Reps (d.M W base (fun k => ok k ∧ some k ≠ (Value.slice (some ⟨g, 0, none⟩) (xs.length + 1) cap).ownBlock)) d.sz xs (inner.take (xs.length * d.sz)) := by
  refine ⟨by rw [List.length_take, hlen]; omega, fun j q hq => ?_⟩
  have hj : j < xs.length := (List.getElem?_eq_some_iff.1 hq).1
  have h2 := hr.2 j q (by rw [List.getElem?_append_left hj]; exact hq)
  have h3 : j * d.sz + d.sz ≤ xs.length * d.sz := by rw [← Nat.succ_mul]; exact Nat.mul_le_mul_right _ hj
  rw [List.drop_take, List.take_take, Nat.min_eq_left (by omega)]
  exact h2
 exact (h1.imp_ (fun _ _ hq => step hq (fun k hk => ⟨hk.1, fun e => hk.2 (by simp [Value.ownBlock, e])⟩))).snoc (step hp hokp) hcs
structure kN {α : Type} (x : Option (PR α)) (n : Int) : Prop where
 out : ∀ a s, x = some (.ok (a, s)) → s.nest = n
theorem kN_ok {α : Type} {a : α} {s : PS} {n : Int} (h : s.nest = n) : kN (some (.ok (a, s))) n := by
 refine ⟨?_⟩
 intro a' s' e
 injection e with e
 injection e with e
 injection e with _ e
 rw [← e]; exact h
theorem kN_none {α : Type} {n : Int} : kN (none : Option (PR α)) n := ⟨fun _ _ e => by cases e⟩
theorem kN_err {α : Type} {y : Int × Int} {n : Int} : kN (some (.error y) : Option (PR α)) n := ⟨fun _ _ e => by cases e⟩
theorem kN_fail {α : Type} {e er : Int} {s : PS} {n : Int} : kN (some (Pm.fail (α := α) e er s)) n := ⟨fun _ _ h => by cases h⟩
theorem kN_bo {α β : Type} {x : Option (PR α)} {f : α → PS → Option (PR β)} {m n : Int} (hx : kN x m) (h : ∀ a s, s.nest = m → kN (f a s) n) : kN (Pm.bo x f) n := by
 refine ⟨?_⟩
 intro a s e
 rcases bo_cases e with ⟨y, _, e2⟩ | ⟨a1, s1, e1, e2⟩
 ·cases e2
 ·exact (h a1 s1 (hx.out a1 s1 e1)).out a s e2
theorem kN_bind {α β : Type} {x : Option α} {f : α → Option (PR β)} {n : Int} (h : ∀ a, kN (f a) n) : kN (x.bind f) n := by
 refine ⟨?_⟩
 intro a s e
 obtain ⟨a1, _, e2⟩ := Option.bind_eq_some_iff.mp e
 exact (h a1).out a s e2
theorem kN_unl (e : Int) (r : Bool) (s : PS) : kN (some (Pm.unl e r s)) s.nest := by
 refine ⟨?_⟩
 intro a s1 h
 rw [← (unl_ok (Option.some.inj h)).2]
theorem kN_counts (e : Int) (s : PS) : kN (some (Pm.counts e s)) s.nest := by
 unfold Pm.counts
 split
 ·exact kN_fail
 ·exact kN_ok rfl
theorem kN_sign (e : Int) (t : ByteArray) (s : PS) : kN (some (Pm.sign e t s)) s.nest := by
 refine ⟨?_⟩
 intro a s1 h
 have h := Option.some.inj h
 unfold Pm.sign Pm.be at h
 cases hu : Pm.unl e (Pm.is e 4 t s) s with
 | error y => rw [hu] at h; cases h
 | ok q =>
  obtain ⟨_, s2⟩ := q
  rw [hu] at h
  injection h with h
  injection h with _ h
  rw [← h, (unl_ok hu).2]
  rfl
theorem kN_closes (e : Int) (s : PS) : kN (some (Pm.closes e s)) s.nest := by
 unfold Pm.closes
 split
 ·exact kN_fail
 ·exact kN_sign e _ s
theorem kN_ifc (e : Int) (c : Bool) (s : PS) : kN (some (if c = true then Pm.counts e s else .ok ((), s))) s.nest := by
 cases c
 ·exact kN_ok rfl
 ·exact kN_counts e s
theorem kN_ifc2 (e : Int) (c : Bool) (s : PS) : kN (some (if c = true then .ok ((), s) else Pm.counts e s)) s.nest := by
 cases c
 ·exact kN_counts e s
 ·exact kN_ok rfl
theorem nest_minus (e : Int) (may : Bool) (s : PS) : (Pm.minus e may s).2.nest = s.nest := by
 unfold Pm.minus
 split <;> rfl
theorem kN_named (k : Nat) (e : Int) (s : PS) : kN (Pm.named k e s) (s.nest) := by
 unfold Pm.named
 repeat' first
  | exact kN_none
  | exact kN_err
  | exact kN_fail
  | exact kN_unl _ _ _
  | exact kN_counts _ _
  | exact kN_sign _ _ _
  | exact kN_closes _ _
  | exact kN_ifc _ _ _
  | exact kN_ifc2 _ _ _
  | (apply kN_bo)
  | (intro a s1 h)
  | (refine kN_bind ?_)
  | (intro a)
  | (split)
  | (refine kN_ok ?_)
 all_goals first | rfl | assumption | (simp only [Pm.nxt, nest_minus] at *; done) | (simp only [Pm.nxt, nest_minus] at *; first | assumption | omega) | (simp_all [Pm.nxt, nest_minus])
theorem kN_name (k : Nat) (e : Int) (s : PS) : kN (Pm.name k e s) (s.nest) := by
 unfold Pm.name
 repeat' first
  | exact kN_none
  | exact kN_err
  | exact kN_fail
  | exact kN_unl _ _ _
  | exact kN_counts _ _
  | exact kN_sign _ _ _
  | exact kN_closes _ _
  | exact kN_ifc _ _ _
  | exact kN_ifc2 _ _ _
  | exact kN_named _ _ _
  | (apply kN_bo)
  | (intro a s1 h)
  | (refine kN_bind ?_)
  | (intro a)
  | (split)
  | (refine kN_ok ?_)
 all_goals first | rfl | assumption | (simp only [Pm.nxt, nest_minus] at *; done) | (simp only [Pm.nxt, nest_minus] at *; first | assumption | omega) | (simp_all [Pm.nxt, nest_minus])
theorem kN_text (k : Nat) (e : Int) (may : ByteArray → Option Int) (s : PS) : kN (Pm.text k e may s) (s.nest) := by
 unfold Pm.text
 repeat' first
  | exact kN_none
  | exact kN_err
  | exact kN_fail
  | exact kN_unl _ _ _
  | exact kN_counts _ _
  | exact kN_sign _ _ _
  | exact kN_closes _ _
  | exact kN_ifc _ _ _
  | exact kN_ifc2 _ _ _
  | exact kN_named _ _ _
  | exact kN_name _ _ _
  | (apply kN_bo)
  | (intro a s1 h)
  | (refine kN_bind ?_)
  | (intro a)
  | (split)
  | (refine kN_ok ?_)
 all_goals first | rfl | assumption | (simp only [Pm.nxt, nest_minus] at *; done) | (simp only [Pm.nxt, nest_minus] at *; first | assumption | omega) | (simp_all [Pm.nxt, nest_minus])
theorem kN_number (k : Nat) (e : Int) (m : Bool) (s : PS) : kN (Pm.number k e m s) (s.nest) := by
 unfold Pm.number
 repeat' first
  | exact kN_none
  | exact kN_err
  | exact kN_fail
  | exact kN_unl _ _ _
  | exact kN_counts _ _
  | exact kN_sign _ _ _
  | exact kN_closes _ _
  | exact kN_ifc _ _ _
  | exact kN_ifc2 _ _ _
  | exact kN_named _ _ _
  | exact kN_name _ _ _
  | exact kN_text _ _ _ _
  | (apply kN_bo)
  | (intro a s1 h)
  | (refine kN_bind ?_)
  | (intro a)
  | (split)
  | (refine kN_ok ?_)
 all_goals first | rfl | assumption | (simp only [Pm.nxt, nest_minus] at *; done) | (simp only [Pm.nxt, nest_minus] at *; first | assumption | omega) | (simp_all [Pm.nxt, nest_minus])
theorem kN_namesL (e at_ : Int) : ∀ (k : Nat) (c : Bool) (t : ByteArray) (s : PS), kN (Pm.namesL e at_ k c t s) s.nest
 | 0, _, _, _ => kN_none
 | k + 1, c, t, s => by
  unfold Pm.namesL
  refine kN_bo (kN_named _ _ _) fun n s1 h1 => kN_bo (kN_ifc _ _ _) fun _ s2 h2 => ?_
  have h3 : s2.nest = s.nest := h2.trans h1
  split
  ·split
   ·split
    ·exact ⟨fun a s' hh => ((kN_namesL e at_ k false _ _).out a s' hh).trans h3⟩
    ·exact kN_none
   ·split
    ·exact kN_err
    ·exact kN_ok h3
  ·exact kN_none
theorem kN_names (k : Nat) (e : Int) (dots c : Bool) (s : PS) : kN (Pm.names k e dots c s) s.nest := by
 unfold Pm.names
 split
 ·exact kN_bo (kN_ifc _ _ _) fun _ s1 h1 => ⟨fun a s' hh => ((kN_namesL e _ k false _ _).out a s' hh).trans h1⟩
 ·exact kN_namesL _ _ _ _ _ _
theorem kN_rest (k : Nat) (e : Int) (f : PField) (s : PS) : kN (Pm.rest k e f s) (s.nest) := by
 unfold Pm.rest
 repeat' first
  | exact kN_none
  | exact kN_err
  | exact kN_fail
  | exact kN_unl _ _ _
  | exact kN_counts _ _
  | exact kN_sign _ _ _
  | exact kN_closes _ _
  | exact kN_ifc _ _ _
  | exact kN_ifc2 _ _ _
  | exact kN_named _ _ _
  | exact kN_name _ _ _
  | exact kN_text _ _ _ _
  | exact kN_number _ _ _ _
  | exact kN_names _ _ _ _ _
  | (apply kN_bo)
  | (intro a s1 h)
  | (refine kN_bind ?_)
  | (intro a)
  | (split)
  | (refine kN_ok ?_)
 all_goals first | rfl | assumption | (simp only [Pm.nxt, nest_minus] at *; done) | (simp only [Pm.nxt, nest_minus] at *; first | assumption | omega) | (simp_all [Pm.nxt, nest_minus])
theorem kN_field (k : Nat) (e : Int) (f : PField) (c : Bool) (s : PS) : kN (Pm.field k e f c s) (s.nest) := by
 unfold Pm.field
 repeat' first
  | exact kN_none
  | exact kN_err
  | exact kN_fail
  | exact kN_unl _ _ _
  | exact kN_counts _ _
  | exact kN_sign _ _ _
  | exact kN_closes _ _
  | exact kN_ifc _ _ _
  | exact kN_ifc2 _ _ _
  | exact kN_named _ _ _
  | exact kN_name _ _ _
  | exact kN_text _ _ _ _
  | exact kN_number _ _ _ _
  | exact kN_names _ _ _ _ _
  | exact kN_rest _ _ _ _
  | (apply kN_bo)
  | (intro a s1 h)
  | (refine kN_bind ?_)
  | (intro a)
  | (split)
  | (refine kN_ok ?_)
 all_goals first | rfl | assumption | (simp only [Pm.nxt, nest_minus] at *; done) | (simp only [Pm.nxt, nest_minus] at *; first | assumption | omega) | (simp_all [Pm.nxt, nest_minus])
theorem kN_labelled (k : Nat) (e : Int) (s : PS) : kN (Pm.labelled k e s) (s.nest) := by
 unfold Pm.labelled
 dsimp only
 repeat' first
  | exact kN_none
  | exact kN_err
  | exact kN_fail
  | exact kN_unl _ _ _
  | exact kN_counts _ _
  | exact kN_sign _ _ _
  | exact kN_closes _ _
  | exact kN_ifc _ _ _
  | exact kN_ifc2 _ _ _
  | exact kN_named _ _ _
  | exact kN_name _ _ _
  | exact kN_text _ _ _ _
  | exact kN_number _ _ _ _
  | exact kN_names _ _ _ _ _
  | exact kN_rest _ _ _ _
  | exact kN_field _ _ _ _ _
  | (apply kN_bo)
  | (intro a s1 h)
  | (refine kN_bind ?_)
  | (intro a)
  | (split)
  | (refine kN_ok ?_)
 all_goals first | rfl | assumption | (simp only [Pm.nxt, nest_minus] at *; done) | (simp only [Pm.nxt, nest_minus] at *; first | assumption | omega) | (simp_all [Pm.nxt, nest_minus])
theorem kN_table (k : Nat) (e : Int) (s : PS) : kN (Pm.table k e s) (s.nest) := by
 unfold Pm.table
 repeat' first
  | exact kN_none
  | exact kN_err
  | exact kN_fail
  | exact kN_unl _ _ _
  | exact kN_counts _ _
  | exact kN_sign _ _ _
  | exact kN_closes _ _
  | exact kN_ifc _ _ _
  | exact kN_ifc2 _ _ _
  | exact kN_named _ _ _
  | exact kN_name _ _ _
  | exact kN_text _ _ _ _
  | exact kN_number _ _ _ _
  | exact kN_names _ _ _ _ _
  | exact kN_rest _ _ _ _
  | exact kN_field _ _ _ _ _
  | exact kN_labelled _ _ _
  | (apply kN_bo)
  | (intro a s1 h)
  | (refine kN_bind ?_)
  | (intro a)
  | (split)
  | (refine kN_ok ?_)
 all_goals first | rfl | assumption | (simp only [Pm.nxt, nest_minus] at *; done) | (simp only [Pm.nxt, nest_minus] at *; first | assumption | omega) | (simp_all [Pm.nxt, nest_minus])
theorem kN_oneofL (e n : Int) : ∀ (k : Nat) (l : List PField) (s : PS), kN (Pm.oneofL e n k l s) s.nest
 | 0, _, _ => kN_none
 | k + 1, l, s => by
  unfold Pm.oneofL
  split
  ·exact kN_ok rfl
  ·split
   ·exact kN_oneofL e n k _ _
   ·refine kN_bind fun bad => ?_
    split
    ·exact kN_fail
    ·refine kN_bo (kN_unl _ _ _) fun _ s1 h1 => kN_bo (kN_field _ _ _ _ _) fun f s2 h2 => ?_
     split
     ·exact ⟨fun a s' hh => ((kN_oneofL e n k _ _).out a s' hh).trans (h2.trans h1)⟩
     ·exact kN_none
theorem kN_oneof (k : Nat) (e : Int) (m : PMsg) (s : PS) : kN (Pm.oneof k e m s) (s.nest) := by
 unfold Pm.oneof
 repeat' first
  | exact kN_none
  | exact kN_err
  | exact kN_fail
  | exact kN_unl _ _ _
  | exact kN_counts _ _
  | exact kN_sign _ _ _
  | exact kN_closes _ _
  | exact kN_ifc _ _ _
  | exact kN_ifc2 _ _ _
  | exact kN_named _ _ _
  | exact kN_name _ _ _
  | exact kN_text _ _ _ _
  | exact kN_number _ _ _ _
  | exact kN_names _ _ _ _ _
  | exact kN_rest _ _ _ _
  | exact kN_field _ _ _ _ _
  | exact kN_labelled _ _ _
  | exact kN_table _ _ _
  | exact kN_oneofL _ _ _ _ _
  | (apply kN_bo)
  | (intro a s1 h)
  | (refine kN_bind ?_)
  | (intro a)
  | (split)
  | (refine kN_ok ?_)
 all_goals first | rfl | assumption | (simp only [Pm.nxt, nest_minus] at *; done) | (simp only [Pm.nxt, nest_minus] at *; first | assumption | omega) | (simp_all [Pm.nxt, nest_minus])
theorem kN_bound (k : Nat) (e : Int) (neg enum : Bool) (s : PS) : kN (Pm.bound k e neg enum s) (s.nest) := by
 unfold Pm.bound
 repeat' first
  | exact kN_none
  | exact kN_err
  | exact kN_fail
  | exact kN_unl _ _ _
  | exact kN_counts _ _
  | exact kN_sign _ _ _
  | exact kN_closes _ _
  | exact kN_ifc _ _ _
  | exact kN_ifc2 _ _ _
  | exact kN_named _ _ _
  | exact kN_name _ _ _
  | exact kN_text _ _ _ _
  | exact kN_number _ _ _ _
  | exact kN_names _ _ _ _ _
  | exact kN_rest _ _ _ _
  | exact kN_field _ _ _ _ _
  | exact kN_labelled _ _ _
  | exact kN_table _ _ _
  | exact kN_oneofL _ _ _ _ _
  | exact kN_oneof _ _ _ _
  | (apply kN_bo)
  | (intro a s1 h)
  | (refine kN_bind ?_)
  | (intro a)
  | (split)
  | (refine kN_ok ?_)
 all_goals first | rfl | assumption | (simp only [Pm.nxt, nest_minus] at *; done) | (simp only [Pm.nxt, nest_minus] at *; first | assumption | omega) | (simp_all [Pm.nxt, nest_minus])
theorem kN_row (k : Nat) (e : Int) (enum : Bool) (s : PS) : kN (Pm.row k e enum s) (s.nest) := by
 unfold Pm.row
 dsimp only
 repeat' first
  | exact kN_none
  | exact kN_err
  | exact kN_fail
  | exact kN_unl _ _ _
  | exact kN_counts _ _
  | exact kN_sign _ _ _
  | exact kN_closes _ _
  | exact kN_ifc _ _ _
  | exact kN_ifc2 _ _ _
  | exact kN_named _ _ _
  | exact kN_name _ _ _
  | exact kN_text _ _ _ _
  | exact kN_number _ _ _ _
  | exact kN_names _ _ _ _ _
  | exact kN_rest _ _ _ _
  | exact kN_field _ _ _ _ _
  | exact kN_labelled _ _ _
  | exact kN_table _ _ _
  | exact kN_oneofL _ _ _ _ _
  | exact kN_oneof _ _ _ _
  | exact kN_bound _ _ _ _ _
  | (apply kN_bo)
  | (intro a s1 h)
  | (refine kN_bind ?_)
  | (intro a)
  | (split)
  | (refine kN_ok ?_)
 all_goals first | rfl | assumption | (simp only [Pm.nxt, nest_minus] at *; done) | (simp only [Pm.nxt, nest_minus] at *; first | assumption | omega) | (simp_all [Pm.nxt, nest_minus])
theorem kN_reservedL (e : Int) (texts enum : Bool) : ∀ (k : Nat) (rows : List PRange) (gone : List ByteArray) (s : PS), kN (Pm.reservedL e texts enum k rows gone s) s.nest
 | 0, _, _, _ => kN_none
 | k + 1, rows, gone, s => by
  unfold Pm.reservedL
  split
  ·refine kN_bo (kN_text _ _ _ _) fun t s1 h1 => kN_bo (kN_counts _ _) fun _ s2 h2 => ?_
   split
   ·split
    ·exact ⟨fun a s' hh => ((kN_reservedL e texts enum k _ _ _).out a s' hh).trans (h2.trans h1)⟩
    ·exact kN_ok (h2.trans h1)
   ·exact kN_none
  ·refine kN_bo (kN_row _ _ _ _) fun r s1 h1 => ?_
   split
   ·split
    ·exact ⟨fun a s' hh => ((kN_reservedL e texts enum k _ _ _).out a s' hh).trans h1⟩
    ·exact kN_ok h1
   ·exact kN_none
theorem kN_reserved (k : Nat) (e : Int) (enum : Bool) (rows : List PRange) (gone : List ByteArray) (s : PS) : kN (Pm.reserved k e enum rows gone s) (s.nest) := by
 unfold Pm.reserved
 dsimp only
 repeat' first
  | exact kN_none
  | exact kN_err
  | exact kN_fail
  | exact kN_unl _ _ _
  | exact kN_counts _ _
  | exact kN_sign _ _ _
  | exact kN_closes _ _
  | exact kN_ifc _ _ _
  | exact kN_ifc2 _ _ _
  | exact kN_named _ _ _
  | exact kN_name _ _ _
  | exact kN_text _ _ _ _
  | exact kN_number _ _ _ _
  | exact kN_names _ _ _ _ _
  | exact kN_rest _ _ _ _
  | exact kN_field _ _ _ _ _
  | exact kN_labelled _ _ _
  | exact kN_table _ _ _
  | exact kN_oneofL _ _ _ _ _
  | exact kN_oneof _ _ _ _
  | exact kN_bound _ _ _ _ _
  | exact kN_row _ _ _ _
  | exact kN_reservedL _ _ _ _ _ _ _
  | (apply kN_bo)
  | (intro a s1 h)
  | (refine kN_bind ?_)
  | (intro a)
  | (split)
  | (refine kN_ok ?_)
 all_goals first | rfl | assumption | (simp only [Pm.nxt, nest_minus] at *; done) | (simp only [Pm.nxt, nest_minus] at *; first | assumption | omega) | (simp_all [Pm.nxt, nest_minus])
theorem kN_to {α : Type} {x : Option (PR α)} {m n : Int} (h : kN x m) (e : m = n) : kN x n := e ▸ h
theorem kN_enumL (e : Int) : ∀ (k : Nat) (x : PEnum) (s : PS), kN (Pm.enumL e k x s) s.nest
 | 0, _, _ => kN_none
 | k + 1, x, s => by
  unfold Pm.enumL
  split
  ·exact kN_ok rfl
  ·split
   ·exact kN_enumL e k _ _
   ·split
    ·exact kN_bo (kN_reserved _ _ _ _ _ _) fun r s1 h1 => kN_to (kN_enumL e k _ _) h1
    ·split
     ·exact kN_fail
     ·refine kN_bo (kN_named _ _ _) fun n s1 h1 => kN_bo (kN_counts _ _) fun _ s2 h2 => kN_bo (kN_sign _ _ _) fun _ s3 h3 => kN_bo (kN_to (kN_number _ _ _ _) (nest_minus _ _ _)) fun v s4 h4 => kN_bo (kN_closes _ _) fun _ s5 h5 => ?_
      have hh : s5.nest = s.nest := h5.trans (h4.trans (h3.trans (h2.trans h1)))
      split
      ·exact kN_to (kN_enumL e k _ _) hh
      ·exact kN_none
theorem kN_enum (k : Nat) (e : Int) (s : PS) : kN (Pm.enum k e s) (s.nest) := by
 unfold Pm.enum
 repeat' first
  | exact kN_none
  | exact kN_err
  | exact kN_fail
  | exact kN_unl _ _ _
  | exact kN_counts _ _
  | exact kN_sign _ _ _
  | exact kN_closes _ _
  | exact kN_ifc _ _ _
  | exact kN_ifc2 _ _ _
  | exact kN_named _ _ _
  | exact kN_name _ _ _
  | exact kN_text _ _ _ _
  | exact kN_number _ _ _ _
  | exact kN_names _ _ _ _ _
  | exact kN_rest _ _ _ _
  | exact kN_field _ _ _ _ _
  | exact kN_labelled _ _ _
  | exact kN_table _ _ _
  | exact kN_oneofL _ _ _ _ _
  | exact kN_oneof _ _ _ _
  | exact kN_bound _ _ _ _ _
  | exact kN_row _ _ _ _
  | exact kN_reservedL _ _ _ _ _ _ _
  | exact kN_reserved _ _ _ _ _ _
  | exact kN_enumL _ _ _ _
  | (apply kN_bo)
  | (intro a s1 h)
  | (refine kN_bind ?_)
  | (intro a)
  | (split)
  | (refine kN_ok ?_)
 all_goals first | rfl | assumption | (simp only [Pm.nxt, nest_minus] at *; done) | (simp only [Pm.nxt, nest_minus] at *; first | assumption | omega) | (simp_all [Pm.nxt, nest_minus])
mutual
theorem kN_message (e : Int) : ∀ (k : Nat) (s : PS), kN (Pm.message e k s) s.nest
 | 0, _ => by unfold Pm.message; exact kN_none
 | k + 1, s => by
  unfold Pm.message
  split
  ·exact kN_fail
  ·refine kN_bo (kN_counts _ _) fun _ s1 h1 => kN_bo (kN_name _ _ _) fun n s2 h2 => kN_bo (kN_sign _ _ _) fun _ s3 h3 => kN_to (kN_messageL e k _ _) ?_
   have : s2.nest = s1.nest + 1 := h2
   omega
theorem kN_messageL (e : Int) : ∀ (k : Nat) (m : PMsg) (s : PS), kN (Pm.messageL e k m s) (s.nest - 1)
 | 0, _, _ => by unfold Pm.messageL; exact kN_none
 | k + 1, m, s => by
  unfold Pm.messageL
  split
  ·exact kN_ok rfl
  ·exact kN_bo (kN_member e k _ _) fun m s1 h1 => kN_to (kN_messageL e k _ _) (by rw [h1])
theorem kN_member (e : Int) : ∀ (k : Nat) (m : PMsg) (s : PS), kN (Pm.member e k m s) s.nest
 | 0, _, _ => by unfold Pm.member; exact kN_none
 | k + 1, m, s => by
  unfold Pm.member
  split
  ·exact kN_ok rfl
  ·split
   ·refine kN_bo (kN_table _ _ _) fun f s1 h1 => ?_
    split
    ·exact kN_ok h1
    ·exact kN_none
   ·split
    ·refine kN_bo (kN_message e k _) fun f s1 h1 => ?_
     split
     ·exact kN_ok h1
     ·exact kN_none
    ·split
     ·refine kN_bo (kN_enum _ _ _) fun f s1 h1 => ?_
      split
      ·exact kN_ok h1
      ·exact kN_none
     ·split
      ·exact kN_oneof _ _ _ _
      ·split
       ·exact kN_bo (kN_reserved _ _ _ _ _ _) fun r s1 h1 => kN_ok h1
       ·split
        ·refine kN_bo (kN_labelled _ _ _) fun f s1 h1 => ?_
         split
         ·exact kN_ok h1
         ·exact kN_none
        ·split
         ·exact kN_fail
         ·refine kN_bo (kN_unl _ _ _) fun _ s1 h1 => kN_bo (kN_field _ _ _ _ _) fun f s2 h2 => ?_
          split
          ·exact kN_ok (h2.trans h1)
          ·exact kN_none
end
def TabM (b g : Nat) (X : PFix) (W : World) : Prop := X.t1 = .slice (some ⟨g, 0, none⟩) 11 11 ∧ g ≠ b ∧ W.heap[g]? = some (.cells tabM 90 (0, 0))
theorem TabM.ch {b g : Nat} {X : PFix} {S : Nat → Prop} {W W' : World} (h : TabM b g X W) (hc : Ch S W W') (hS : ¬ S g) : TabM b g X W' := ⟨h.1, h.2.1, (hc.block g (Array.getElem?_eq_some_iff.1 h.2.2).1 hS).trans h.2.2⟩
theorem TabE.ch {b g : Nat} {X : PFix} {S : Nat → Prop} {W W' : World} (h : TabE b g X W) (hc : Ch S W W') (hS : ¬ S g) : TabE b g X W' := ⟨h.1, h.2.1, (hc.block g (Array.getElem?_eq_some_iff.1 h.2.2).1 hS).trans h.2.2⟩
theorem PAt.bd {b : Nat} {X : PFix} {W : World} {s : PS} (h : PAt b X W s) : 0 ≤ s.nest ∧ s.nest ≤ 32 := by
 obtain ⟨A, c, _, _, _, _, h, _⟩ := h
 exact h.2.2
theorem PAt.c8 {b : Nat} {X : PFix} {W : World} {s : PS} (h : PAt b X W s) : W.cell? ⟨b, 8, none⟩ = some (.int .i64 s.nest) ∧ W.frozen? ⟨b, 8, none⟩ = false ∧ b < W.heap.size := by
 obtain ⟨A, c, h1, _⟩ := h
 obtain ⟨_, _, _, c8, _, _, f0, hlt⟩ := pcells_at h1
 exact ⟨c8, f0 8, hlt⟩
theorem PAt.nestSet {b : Nat} {X : PFix} {W : World} {s : PS} (h : PAt b X W s) (ne : Int) (hn : 0 ≤ ne ∧ ne ≤ 32) : PAt b X (W.setCell ⟨b, 8, none⟩ (.int .i64 ne)) { s with nest := ne } := by
 obtain ⟨A, c, h1, h2, h3, h4, h5, h6⟩ := h
 exact ⟨A, c, by simpa [pcells] using pset h1 8 (.int .i64 ne), h2, Kd.F_far h3 (fun k hk => Nat.ne_of_lt (Nat.lt_of_lt_of_le hk h4)) _, h4, ⟨h5.1, h5.2.1, hn⟩, ⟨h6.1.ch (Ch.set (S := fun k => k = b) (Ch.refl _ W) (fun _ => rfl) _) (fun e => by have := h6.2; omega) (fun e => by have := h6.2; omega), h6.2⟩⟩
theorem MInv.new {b : Nat} {W : World} {base : Nat} (hb : b < base) (hw : base ≤ W.heap.size) (n : ByteArray) : MInv base b W.heap.size (W.alloc (.cells #[.string n, .slice none 0 0, .slice none 0 0, .slice none 0 0, .slice none 0 0, .slice none 0 0, .slice none 0 0] 48)) ⟨n, [], [], [], [], [], []⟩ :=
 ⟨_, _, _, _, _, _, blk_new W _, ⟨hw, hb⟩, Kd.R_nil _ _ _ _ _, Kd.R_nil _ _ _ _ _, Kd.R_nil _ _ _ _ _, Kd.R_nil _ _ _ _ _, Kd.R_nil _ _ _ _ _, Kd.R_nil _ _ _ _ _⟩
def PostMs (b : Nat) (X : PFix) (W : World) (r : PR PMsg) (e : Ending) (w' : World) : Prop :=
 match r with
 | .ok (x, s) => (∃ v1 v2 v3 v4 v5 v6, e = .returned (.agg #[.string x.f0, v1, v2, v3, v4, v5, v6]) ∧ k48.M w' (W.heap.size + 1) (fun k => W.heap.size < k) x [.string x.f0, v1, v2, v3, v4, v5, v6]) ∧ PAt b X w' s ∧ Ch (· = b) W w'
 | .error x => e = thrown x.1 x.2 ∧ Ch (· = b) W w'
def MemOK (k : Nat) : Prop := ∀ (base b bm gt gm : Nat) (X : PFix) (m : PMsg) (s : PS) (r : PR PMsg) (W : World), Pm.member X.e k m s = some r → PAt b X W s → MInv base b bm W m → TabE b gt X W → TabM b gm X W → gt < base → gm < base →
 Calls Tryd.prog 70 #[.pointer (some ⟨b, 0, none⟩), .pointer (some ⟨bm, 0, none⟩)] W (PostM base b bm X W r)
def MsgOK (k : Nat) : Prop := ∀ (b gt gm : Nat) (X : PFix) (s : PS) (r : PR PMsg) (W : World), Pm.message X.e k s = some r → PAt b X W s → TabE b gt X W → TabM b gm X W →
 Calls Tryd.prog 42 #[.pointer (some ⟨b, 0, none⟩)] W (PostMs b X W r)
set_option maxHeartbeats 8000000 in
set_option maxRecDepth 100000 in
theorem message_calls (k0 : Nat) (hmem : ∀ j, j < k0 → MemOK j) : MsgOK k0 := by
 intro b gt gm X s r W hr h hE hM
 cases k0 with
 | zero => unfold Pm.message at hr; cases hr
 | succ k =>
 have HMem := Aside0.mk hmem
 have hgt := (Array.getElem?_eq_some_iff.1 hE.2.2).1
 have hgm := (Array.getElem?_eq_some_iff.1 hM.2.2).1
 obtain ⟨base, hbase⟩ : ∃ base, base = (W.alloc (.cells #[.string ⟨#[]⟩, .slice none 0 0, .slice none 0 0, .slice none 0 0, .slice none 0 0, .slice none 0 0, .slice none 0 0] 48)).heap.size := ⟨_, rfl⟩
 have HBase := Aside0.mk hbase
 have HBlt := Aside0.mk h.lt
 have HBS := Aside0.mk (show base = W.heap.size + 1 by rw [hbase]; simp)
 have HE0 := Aside0.mk (hE.ch (Ch.alloc (Ch.refl (fun _ => False) W) (.cells #[.string ⟨#[]⟩, .slice none 0 0, .slice none 0 0, .slice none 0 0, .slice none 0 0, .slice none 0 0, .slice none 0 0] 48)) (fun h => h))
 have HM0 := Aside0.mk (hM.ch (Ch.alloc (Ch.refl (fun _ => False) W) (.cells #[.string ⟨#[]⟩, .slice none 0 0, .slice none 0 0, .slice none 0 0, .slice none 0 0, .slice none 0 0, .slice none 0 0] 48)) (fun h => h))
 have HGl := Aside0.mk (show gt < base ∧ gm < base by rw [hbase]; simp; omega)
 have HP := Aside0.mk (PAt.al h (.cells #[.string ⟨#[]⟩, .slice none 0 0, .slice none 0 0, .slice none 0 0, .slice none 0 0, .slice none 0 0, .slice none 0 0] 48))
 have HC := Aside0.mk (Ch.refl (· = b) (W.alloc (.cells #[.string ⟨#[]⟩, .slice none 0 0, .slice none 0 0, .slice none 0 0, .slice none 0 0, .slice none 0 0, .slice none 0 0] 48)))
 have HG := Aside0.mk True.intro
 unfold Pm.message at hr
 have hnb := h.bd
 obtain ⟨c8, f8, hlt⟩ := h.c8
 by_cases hn : s.nest = 32
 ·rw [if_pos hn] at hr
  obtain rfl := Option.some.inj hr
  have hnn : (s.nest == 32) = true := beq_iff_eq.mpr hn
  clear h hr hE hM hmem hbase hgt hgm hn hnb
  go_enter Tryd.func42, Tryd.ntmps42
  go_wp2_with fail
  refine (fail_calls b X 53 s _ HP.out.fr).mono ?_; rintro e w1 ⟨rfl, hb⟩; exact ⟨rfl, rfl, Ch.fin (Ch.sm (Ch.then_below HC.out.fr hb)) HBase.out⟩
 ·rw [if_neg hn] at hr
  have HR := Aside0.mk hr
  have HNb := Aside0.mk (show 0 ≤ s.nest ∧ s.nest < 32 by omega)
  have hnn : (s.nest == 32) = false := beq_eq_false_iff_ne.mpr hn
  clear h hr hE hM hmem hbase hgt hgm hn hnb
  go_enter Tryd.func42, Tryd.ntmps42
  go_wp2_with fail
  clear c8 f8 hlt hnn
  rcases bo_cases HR.out with ⟨y, hy, hr2⟩ | ⟨⟨⟩, s1, hy, hr2⟩
  ·subst hr2
   refine (counts_calls b X s _ HP.out.fr).mono ?_
   rintro e w1 hU
   rw [(Option.some.inj hy : Pm.counts X.e s = _)] at hU
   obtain ⟨rfl, hC⟩ := hU
   exact ⟨rfl, rfl, Ch.fin (Ch.sm (Ch.trans HC.out.fr hC)) HBase.out⟩
  refine (counts_calls b X s _ HP.out.fr).mono ?_
  rintro e w1 hU
  rw [(Option.some.inj hy : Pm.counts X.e s = _)] at hU
  obtain ⟨rfl, hP, hC⟩ := hU
  have hs1 : s1.nest = s.nest := (kN_counts X.e s).out () s1 hy
  have n1_ := Aside0.mk (Ch.trans HC.out.fr hC)
  have n0_ := Aside0.mk hP
  clear HR HP HC
  have HR := Aside0.mk hr2
  have HC := n1_
  have HP := n0_
  obtain ⟨c8, f8, hlt⟩ := hP.c8
  have hn0 : 0 ≤ s1.nest := by have := HNb.out; omega
  have hn1 : s1.nest < 32 := by have := HNb.out; omega
  clear hP hC hy hr2 n0_ n1_ hs1
  go_wp2_with fail
  have HP2 := Aside0.mk (PAt.nestSet HP.out (s1.nest + 1) ⟨by omega, by omega⟩)
  have HC2 := Aside0.mk (Ch.set HC.out (fun _ => rfl) (.int .i64 (s1.nest + 1)) : Ch (· = b) _ (w1.setCell ⟨b, 8, none⟩ (.int .i64 (s1.nest + 1))))
  clear HP HC c8 f8 hlt
  have HP := HP2
  have HC := HC2
  clear HP2 HC2
  refine (next_calls b X { s1 with nest := s1.nest + 1 } _ HP.out.fr).mono ?_; rintro e w1 ⟨rfl, hP, hC⟩; have n0_ := Aside0.mk hP; have n1_ := Aside0.mk (Ch.trans HC.out.fr hC); clear HP HC hP hC; have HP := n0_; have HC := n1_; clear n0_ n1_
  go_wp2_with fail
  rcases bo_cases HR.out with ⟨y, hy, hr2⟩ | ⟨n, s2, hy, hr2⟩; (clear HR; subst hr2; refine (name_calls b X k (Pm.nxt { s1 with nest := s1.nest + 1 }) _ hy _ HP.out.fr).mono ?_; rintro e w1 ⟨rfl, hC⟩; exact ⟨rfl, rfl, Ch.fin (Ch.sm (Ch.trans HC.out.fr hC)) HBase.out⟩); ((try dsimp only at hr2); clear HR; have HR := Aside0.mk hr2; clear hr2; refine (name_calls b X k (Pm.nxt { s1 with nest := s1.nest + 1 }) _ hy _ HP.out.fr).mono ?_; rintro e w1 ⟨rfl, hP, hC⟩; have n0_ := Aside0.mk hP; have n1_ := Aside0.mk (Ch.trans HC.out.fr hC); have HY2 := Aside0.mk hy; clear hP hC hy; (try clear HP); clear HC; have HP := n0_; have HC := n1_; clear n0_ n1_)
  have HN2 := Aside0.mk (show s2.nest = s1.nest + 1 from (kN_name _ _ _).out _ _ HY2.out)
  obtain ⟨we, rfl⟩ : ∃ we : World, we = w1 := ⟨_, rfl⟩
  have HMi := Aside0.mk (MInv.new (b := b) (W := we) (base := base) (by rw [HBase.out]; exact Nat.lt_of_lt_of_le HBlt.out (by simp)) (by rw [HBase.out]; exact HC.out.size) n)
  have HCs := Aside0.mk ((Ch.sm HC.out : Ch (SM b base) _ we).alloc (.cells #[.string n, .slice none 0 0, .slice none 0 0, .slice none 0 0, .slice none 0 0, .slice none 0 0, .slice none 0 0] 48))
  have HP2 := Aside0.mk (PAt.al HP.out (.cells #[.string n, .slice none 0 0, .slice none 0 0, .slice none 0 0, .slice none 0 0, .slice none 0 0, .slice none 0 0] 48))
  clear HP HC HY2
  have HP := HP2
  have HC := Aside0.mk (Ch.refl (· = b) (we.alloc (.cells #[.string n, .slice none 0 0, .slice none 0 0, .slice none 0 0, .slice none 0 0, .slice none 0 0, .slice none 0 0] 48)))
  clear HP2
  go_wp2_with fail
  rcases bo_cases HR.out with ⟨y, hy, hr2⟩ | ⟨⟨⟩, s3, hy, hr2⟩; (clear HR; subst hr2; refine (sign_calls b X Pm.wLbrace s2 _ HP.out.fr).mono ?_; rintro e w1 hU; rw [(Option.some.inj hy : Pm.sign X.e Pm.wLbrace s2 = _)] at hU; obtain ⟨rfl, hC⟩ := hU; exact ⟨rfl, rfl, Ch.fin (HCs.out.trans (Ch.sm (Ch.trans HC.out.fr hC))) HBase.out⟩); ((try dsimp only at hr2); clear HR; have HR := Aside0.mk hr2; clear hr2; refine (sign_calls b X Pm.wLbrace s2 _ HP.out.fr).mono ?_; rintro e w1 hU; rw [(Option.some.inj hy : Pm.sign X.e Pm.wLbrace s2 = _)] at hU; obtain ⟨rfl, hP, hC⟩ := hU; have n0_ := Aside0.mk hP; have n1_ := Aside0.mk (Ch.trans HC.out.fr hC); have HY3 := Aside0.mk hy; clear hP hC hy; (try clear HP); clear HC; have HP := n0_; have HC := n1_; clear n0_ n1_)
  have HN3 := Aside0.mk (show 1 ≤ s3.nest by have h1 := (kN_sign _ _ _).out _ _ HY3.out; have h2 := HN2.out; omega)
  clear HN2 HY3 hn0 hn1
  go_wp2
  have HM2 := Aside0.mk (MInv.b HMi.out HC.out)
  have HCs2 := Aside0.mk (HCs.out.trans (Ch.sm HC.out))
  clear HMi HC HCs
  go_loopg [] k (fun kq w' => ∃ (m' : PMsg) (s' : PS), Aside0 (Pm.messageL X.e kq m' s' = some r) ∧ Aside0 (kq ≤ k) ∧ Aside0 (1 ≤ s'.nest) ∧ Aside0 (PAt b X w' s') ∧ Aside0 (MInv base b we.heap.size w' m') ∧ Aside0 (Ch (SM b base) (W.alloc (.cells #[.string ⟨#[]⟩, .slice none 0 0, .slice none 0 0, .slice none 0 0, .slice none 0 0, .slice none 0 0, .slice none 0 0] 48)) w'))
  case atStart => exact ⟨_, _, HR, ⟨Nat.le_refl _⟩, HN3, HP, HM2, HCs2⟩
  case round =>
   clear HR HP HM2 HCs2 HN3
   obtain ⟨m', s', HR, HK1, HN3, HP, HMi, HCs⟩ := hrel
   have HC := Aside0.mk (Ch.refl (· = b) wr)
   cases gk with
   | zero => exact absurd HR.out (by simp [Pm.messageL])
   | succ k1 =>
    have hr2 := HR.out
    clear HR
    simp only [Pm.messageL] at hr2
    have HR := Aside0.mk hr2
    clear hr2
    go_wp2_with fail
    cases g : Pm.is X.e 4 Pm.wRbrace s' with
    | true =>
     obtain rfl := Option.some.inj (Pm.ite_t HR.out g)
     have HGr := Aside0.mk g
     clear g HR
     refine (is_calls b X 4 Pm.wRbrace s' _ HP.out.fr).mono ?_; rintro e w1 ⟨rfl, hb⟩; rw [HGr.out]; have n0_ := Aside0.mk (PAt.below HP.out.fr hb); have n1_ := Aside0.mk (Ch.then_below HC.out.fr hb); clear HP HC hb; have HP := n0_; have HC := n1_; clear n0_ n1_
     go_wp2_with fail
     refine (next_calls b X s' _ HP.out.fr).mono ?_; rintro e w1 ⟨rfl, hP, hC⟩; have n0_ := Aside0.mk hP; have n1_ := Aside0.mk (Ch.trans HC.out.fr hC); clear HP HC hP hC; have HP := n0_; have HC := n1_; clear n0_ n1_
     obtain ⟨c8, f8, hlt⟩ := HP.out.c8
     have hn0 : 1 ≤ (Pm.nxt s').nest := HN3.out
     have hn1 : (Pm.nxt s').nest ≤ 32 := HP.out.bd.2
     obtain ⟨v1, v2, v3, v4, v5, v6, h0, hb0, r1, r2, r3, r4, r5, r6⟩ := MInv.b HMi.out HC.out
     obtain ⟨A1, n1, c1, rfl⟩ := R_slice3 r1
     obtain ⟨A2, n2, c2, rfl⟩ := R_slice3 r2
     obtain ⟨A3, n3, c3, rfl⟩ := R_slice3 r3
     obtain ⟨A4, n4, c4, rfl⟩ := R_slice3 r4
     obtain ⟨A5, n5, c5, rfl⟩ := R_slice3 r5
     obtain ⟨A6, n6, c6, rfl⟩ := R_slice3 r6
     have hbs := HBS.out
     have R1 := Aside0.mk (row_res (g := W.heap.size) r1 (by omega))
     have R2 := Aside0.mk (row_res (g := W.heap.size) r2 (by omega))
     have R3 := Aside0.mk (row_res (g := W.heap.size) r3 (by omega))
     have R4 := Aside0.mk (row_res (g := W.heap.size) r4 (by omega))
     have R5 := Aside0.mk (row_res (g := W.heap.size) r5 (by omega))
     have R6 := Aside0.mk (row_res (g := W.heap.size) r6 (by omega))
     have hx0 := (HC.out.block W.heap.size (Nat.lt_of_lt_of_le (by simp) HCs.out.size) (fun e => Nat.ne_of_gt HBlt.out e)).trans ((HCs.out.block W.heap.size (by simp) (fun h => h.elim (fun e => Nat.ne_of_gt HBlt.out e) (fun h => by omega))).trans (blk_new W _))
     have hne : W.heap.size < we.heap.size := by have := hb0.1; omega
     have hne2 : b < W.heap.size := HBlt.out
     have hn3 := Nat.ne_of_lt hne
     have hn4 := Nat.ne_of_gt hne
     have hn5 := Nat.ne_of_lt hne2
     have hn6 := Nat.ne_of_gt hne2
     have hn7 := Nat.ne_of_lt (Nat.lt_trans hne2 hne)
     have hn8 := Nat.ne_of_gt (Nat.lt_trans hne2 hne)
     clear hb0 r1 r2 r3 r4 r5 r6 hne hne2 hbs
     obtain ⟨bx1, bxf, bx3⟩ := pcell h0
     have x0 : w1.cell? ⟨we.heap.size, 0, none⟩ = some (.string m'.f0) := bx1 0 _ rfl
     have x1 : w1.cell? ⟨we.heap.size, 1, none⟩ = some (.slice A1 n1 c1) := bx1 1 _ rfl
     have x2 : w1.cell? ⟨we.heap.size, 2, none⟩ = some (.slice A2 n2 c2) := bx1 2 _ rfl
     have x3 : w1.cell? ⟨we.heap.size, 3, none⟩ = some (.slice A3 n3 c3) := bx1 3 _ rfl
     have x4 : w1.cell? ⟨we.heap.size, 4, none⟩ = some (.slice A4 n4 c4) := bx1 4 _ rfl
     have x5 : w1.cell? ⟨we.heap.size, 5, none⟩ = some (.slice A5 n5 c5) := bx1 5 _ rfl
     have x6 : w1.cell? ⟨we.heap.size, 6, none⟩ = some (.slice A6 n6 c6) := bx1 6 _ rfl
     obtain ⟨by1, byf, by3⟩ := pcell hx0
     have y0 := by1 0 _ rfl
     have y1 := by1 1 _ rfl
     have y2 := by1 2 _ rfl
     have y3 := by1 3 _ rfl
     have y4 := by1 4 _ rfl
     have y5 := by1 5 _ rfl
     have y6 := by1 6 _ rfl
     have z0 := byf 0
     have z1 := byf 1
     have z2 := byf 2
     have z3 := byf 3
     have z4 := byf 4
     have z5 := byf 5
     have z6 := byf 6
     clear h0 hx0 bx1 bxf by1 byf
     have HPn := Aside0.mk (PAt.nestSet HP.out ((Pm.nxt s').nest - 1) ⟨by omega, by omega⟩)
     go_wp2
     refine bodyPost_ret (v := .agg #[.string m'.f0, .slice A1 n1 c1, .slice A2 n2 c2, .slice A3 n3 c3, .slice A4 n4 c4, .slice A5 n5 c5, .slice A6 n6 c6]) (by simp [results, Tryd.results42, go_sem, *]) rfl ?_
     have hC1 := Ch.fin (HCs.out.trans (Ch.sm HC.out)) HBase.out
     exact ⟨⟨_, _, _, _, _, _, rfl, by rw [← HBS.out]; exact k48_mkM _ _ _ _ (row_st (row_st (row_st (row_st (row_st (row_st (row_st (Kd.R_far R1.out (p := ⟨b, 8, none⟩) (fun k (hk : W.heap.size < k) => Nat.ne_of_gt (Nat.lt_trans HBlt.out hk)) _) _) _) _) _) _) _) _) (row_st (row_st (row_st (row_st (row_st (row_st (row_st (Kd.R_far R2.out (p := ⟨b, 8, none⟩) (fun k (hk : W.heap.size < k) => Nat.ne_of_gt (Nat.lt_trans HBlt.out hk)) _) _) _) _) _) _) _) _) (row_st (row_st (row_st (row_st (row_st (row_st (row_st (Kd.R_far R3.out (p := ⟨b, 8, none⟩) (fun k (hk : W.heap.size < k) => Nat.ne_of_gt (Nat.lt_trans HBlt.out hk)) _) _) _) _) _) _) _) _) (row_st (row_st (row_st (row_st (row_st (row_st (row_st (Kd.R_far R4.out (p := ⟨b, 8, none⟩) (fun k (hk : W.heap.size < k) => Nat.ne_of_gt (Nat.lt_trans HBlt.out hk)) _) _) _) _) _) _) _) _) (row_st (row_st (row_st (row_st (row_st (row_st (row_st (Kd.R_far R5.out (p := ⟨b, 8, none⟩) (fun k (hk : W.heap.size < k) => Nat.ne_of_gt (Nat.lt_trans HBlt.out hk)) _) _) _) _) _) _) _) _) (row_st (row_st (row_st (row_st (row_st (row_st (row_st (Kd.R_far R6.out (p := ⟨b, 8, none⟩) (fun k (hk : W.heap.size < k) => Nat.ne_of_gt (Nat.lt_trans HBlt.out hk)) _) _) _) _) _) _) _) _)⟩, (PAt.st (PAt.st (PAt.st (PAt.st (PAt.st (PAt.st (PAt.st HPn.out ⟨HBlt.out, HPn.out.ge⟩ _) ⟨HBlt.out, HPn.out.ge⟩ _) ⟨HBlt.out, HPn.out.ge⟩ _) ⟨HBlt.out, HPn.out.ge⟩ _) ⟨HBlt.out, HPn.out.ge⟩ _) ⟨HBlt.out, HPn.out.ge⟩ _) ⟨HBlt.out, HPn.out.ge⟩ _), (Ch.stg (Ch.stg (Ch.stg (Ch.stg (Ch.stg (Ch.stg (Ch.stg (Ch.set hC1 (fun _ => rfl) _) (Nat.le_refl _) _) (Nat.le_refl _) _) (Nat.le_refl _) _) (Nat.le_refl _) _) (Nat.le_refl _) _) (Nat.le_refl _) _) (Nat.le_refl _) _)⟩
    | false =>
     have hr3 := HR.out; rw [if_neg (by rw [g]; exact Bool.false_ne_true)] at hr3; clear HR; have HR := Aside0.mk hr3; clear hr3
     have HGr := Aside0.mk g
     clear g
     refine (is_calls b X 4 Pm.wRbrace s' _ HP.out.fr).mono ?_; rintro e w1 ⟨rfl, hb⟩; rw [HGr.out]; have n0_ := Aside0.mk (PAt.below HP.out.fr hb); have n1_ := Aside0.mk (Ch.then_below HC.out.fr hb); clear HP HC hb; have HP := n0_; have HC := n1_; clear n0_ n1_
     have HtE := Aside0.mk (HE0.out.ch (HCs.out.trans (Ch.sm HC.out)) (fun h => h.elim HE0.out.2.1 (fun h => absurd HGl.out.1 (Nat.not_lt.mpr h))))
     have HtM := Aside0.mk (HM0.out.ch (HCs.out.trans (Ch.sm HC.out)) (fun h => h.elim HM0.out.2.1 (fun h => absurd HGl.out.2 (Nat.not_lt.mpr h))))
     have hk1 : k1 < k + 1 := by have := HK1.out; omega
     have HMk := Aside0.mk (HMem.out k1 hk1)
     clear hk1
     go_wp2_with fail
     rcases bo_cases HR.out with ⟨y, hy, hr2⟩ | ⟨m2, s2', hy, hr2⟩
     ·subst hr2
      refine (HMk.out base b we.heap.size gt gm X m' s' _ _ hy HP.out (MInv.b HMi.out HC.out) HtE.out HtM.out HGl.out.1 HGl.out.2).mono ?_
      rintro e w1 ⟨rfl, hC⟩
      exact ⟨rfl, rfl, Ch.fin (HCs.out.trans ((Ch.sm HC.out).trans hC)) HBase.out⟩
     ·refine (HMk.out base b we.heap.size gt gm X m' s' _ _ hy HP.out (MInv.b HMi.out HC.out) HtE.out HtM.out HGl.out.1 HGl.out.2).mono ?_
      rintro e w1 ⟨rfl, hP, hM, hC⟩
      have HP2 := Aside0.mk hP
      have HM2 := Aside0.mk hM
      have HCs2 := Aside0.mk (HCs.out.trans ((Ch.sm HC.out).trans hC))
      have HN4 := Aside0.mk (show 1 ≤ s2'.nest by have h1 := (kN_member _ _ _ _).out _ _ hy; have h2 := HN3.out; omega)
      have HR2 := Aside0.mk hr2
      clear hP hM hC hy hr2 HP HMi HC HCs HR HN3 HtE HtM HMk
      go_wp2
      go_roundg k1
      case measure => have := HK1.out; omega
      case rel => exact ⟨_, _, HR2, ⟨by have := HK1.out; omega⟩, HN4, HP2, HM2, HCs2⟩
theorem row_oth2 {α : Type} {d : Kd α} {e : Nat} {W W1 : World} {base bm b : Nat} {L L' : List Value} {v vi v1 : Value} {xs : List α} (h : d.R e W base (okL bm b L) v xs) (hv : vi ∈ L) (hc : Ch (fun k => k = b ∨ some k = vi.ownBlock) W W1) (hat : v1.ownBlock = vi.ownBlock ∨ ∃ g, v1.ownBlock = some g ∧ W.heap.size ≤ g) (hL : ∀ u ∈ L', u ∈ L ∨ u = v1) : d.R e W1 base (okL bm b L') v xs := by
 refine Kd.R_mono (Kd.R_step (Kd.R_bound h) (fun k hk hlt => hc.block k hlt (fun hs => hs.elim hk.1.2.1 (hk.1.2.2 vi hv)))) (fun k hk => ⟨hk.1.1, hk.1.2.1, fun u hu => ?_⟩)
 rcases hL u hu with h1 | rfl
 ·exact hk.1.2.2 u h1
 ·rcases hat with hat | ⟨g, hat, hge⟩
  ·rw [hat]; exact hk.1.2.2 vi hv
  ·rw [hat]
   intro he
   injection he with he
   have := hk.2.2.1
   omega
theorem MInv.appG3 {base b bm : Nat} {W : World} {m : PMsg} (h : MInv base b bm W m) : ∃ v L, (W.cell? ⟨bm, 3, none⟩ = some v ∧ (∀ j, W.frozen? ⟨bm, j, none⟩ = false) ∧ bm < W.heap.size) ∧ k48.R 48 W base (okL bm b L) v m.f3 ∧ (∀ k, W.heap.size ≤ k → okL bm b L k ∧ some k ≠ v.ownBlock) ∧ base ≤ W.heap.size ∧ (∀ k, v.ownBlock = some k → k < W.heap.size ∧ base ≤ k) ∧
  ∀ w9 v9 l9, k48.R 48 w9 base (okL bm b L) v9 l9 → Ch (fun k => k = b ∨ some k = v.ownBlock) W w9 → (v9.ownBlock = v.ownBlock ∨ ∃ g, v9.ownBlock = some g ∧ W.heap.size ≤ g) →
   (w9.cell? ⟨bm, 3, none⟩ = some v ∧ (∀ j, w9.frozen? ⟨bm, j, none⟩ = false) ∧ bm < w9.heap.size) ∧ MInv base b bm (w9.setCell ⟨bm, 3, none⟩ v9) { m with f3 := l9 } ∧ Ch (SM b base) W (w9.setCell ⟨bm, 3, none⟩ v9) := by
 obtain ⟨v1, v2, v3, v4, v5, v6, h0, hb, r1, r2, r3, r4, r5, r6⟩ := h
 have g0 := pcell h0
 have hne : some bm ≠ v3.ownBlock := fun e => (r3.1 bm e.symm).1 rfl
 have hblt : b < W.heap.size := by have := g0.2.2; have := hb.1; omega
 have hS : ¬ (bm = b ∨ some bm = v3.ownBlock) := fun h => h.elim (fun e => by omega) hne
 refine ⟨v3, [v1, v2, v4, v5, v6], ⟨g0.1 3 _ rfl, g0.2.1, g0.2.2⟩, r3, fun k hk => ⟨row_fresh g0.2.2 hblt ?_ k hk, fun e => by have := (row_lt r3 k e.symm).1; omega⟩, Nat.le_trans hb.1 (Nat.le_of_lt g0.2.2), row_lt r3, fun w9 v9 l9 r9 hg hat => ⟨?_, ?_, ?_⟩⟩
 ·intro v hv k hk
  simp only [List.mem_cons, List.not_mem_nil, or_false] at hv
  rcases hv with rfl | rfl | rfl | rfl | rfl
  all_goals first | exact (row_lt r1 k hk).1 | exact (row_lt r2 k hk).1 | exact (row_lt r3 k hk).1 | exact (row_lt r4 k hk).1 | exact (row_lt r5 k hk).1 | exact (row_lt r6 k hk).1
 ·have g9 := pcell ((hg.block bm g0.2.2 hS).trans h0)
  exact ⟨g9.1 3 _ rfl, g9.2.1, g9.2.2⟩
 ·exact ⟨v1, v2, v9, v4, v5, v6, by simpa using pset ((hg.block bm g0.2.2 hS).trans h0) 3 v9, hb, Kd.R_far (row_oth2 (L' := [v2, v9, v4, v5, v6]) r1 (by simp) hg hat (by simp)) (fun k hk => hk.1) _, Kd.R_far (row_oth2 (L' := [v1, v9, v4, v5, v6]) r2 (by simp) hg hat (by simp)) (fun k hk => hk.1) _, Kd.R_far r9 (fun k hk => hk.1) _, Kd.R_far (row_oth2 (L' := [v1, v2, v9, v5, v6]) r4 (by simp) hg hat (by simp)) (fun k hk => hk.1) _, Kd.R_far (row_oth2 (L' := [v1, v2, v9, v4, v6]) r5 (by simp) hg hat (by simp)) (fun k hk => hk.1) _, Kd.R_far (row_oth2 (L' := [v1, v2, v9, v4, v5]) r6 (by simp) hg hat (by simp)) (fun k hk => hk.1) _⟩
 ·exact Ch.set (hg.mono (fun k _ h => h.elim .inl (fun e => .inr (row_lt r3 k e.symm).2))) (fun _ => .inr hb.1) _
theorem M_msg {w w1 : World} {base base' : Nat} {ok ok' : Nat → Prop} {x : PMsg} {v1 v2 v3 v4 v5 v6 : Value} (h : k48.M w base ok x [.string x.f0, v1, v2, v3, v4, v5, v6]) (hb : base' ≤ base) (hok : ∀ k, ok k → ok' k) : k48.M w base' ok' x [.string x.f0, v1, v2, v3, v4, v5, v6] := by
 obtain ⟨u1, u2, u3, u4, u5, u6, e, r1, r2, r3, r4, r5, r6⟩ := k48_openM h
 simp only [List.cons.injEq, true_and, and_true] at e
 obtain ⟨rfl, rfl, rfl, rfl, rfl, rfl⟩ := e
 exact k48_mkM _ _ _ x (Kd.R_mono (Kd.R_lower r1 hb) hok) (Kd.R_mono (Kd.R_lower r2 hb) hok) (Kd.R_mono (Kd.R_lower r3 hb) hok) (Kd.R_mono (Kd.R_lower r4 hb) hok) (Kd.R_mono (Kd.R_lower r5 hb) hok) (Kd.R_mono (Kd.R_lower r6 hb) hok)
end Go.Proofs.YtgkodenllfpajaaDoor.A
end
section
namespace Go.Proofs.YtgkodenllfpajaaDoor.A
open Go.RowKit Go.Proofs.YtgkodenllfpajaaDoorW.PrintWords Go.Proofs.YtgkodenllfpajaaDoorW.PrintLast Go.Proofs.YtgkodenllfpajaaDoorW.PrintMore
set_option linter.unusedVariables false
set_option linter.unusedSimpArgs false
section
variable {P : Program} {ops : Array Oper} {o : Oper} {a : Act} {Q : Exit → Act → World → Prop} {Kc : Act → World → Prop} {α : Type} {E : Prop}
theorem R_append_step_at (d : Kd α) {W : World} (base : Nat) (hw : Region.wanted o (yielded ops a.tmps) = true) (s x : Operand) (t e : TypeId) (z : Value) (bytes : Nat)
  (ho : o.op = .call { callee := .builtin .append, args := #[s, x], argTypes := #[t, t] })
  (ht : P.underlying t = some (.slice e)) (hinfo : (P.info? e).map (fun i => (i.zero, i.size, i.bytes)) = some (some z, d.sz, bytes)) (hz : z.cells.size = d.sz) (hs0 : 0 < d.sz) (hb0 : 0 < bytes)
  (v : Value) (xs : List α) (p : α) (cs : List Value) (ok okp : Nat → Prop) (hs : a.eval s = v) (g : Nat) (hx : a.eval x = .slice (some ⟨g, 0, none⟩) 1 1) (hbx : W.heap[g]? = some (.cells cs.toArray e (0, 0))) (hp : d.M W base okp p cs) (hokp : ∀ k, okp k → ok k ∧ some k ≠ v.ownBlock) (hfresh : ∀ k, W.heap.size ≤ k → ok k)
  (HO : d.R e W base ok v xs) (hbase : base ≤ W.heap.size) (hl : (xs.length + 1) * bytes ≤ 140737488355328)
  (h : ∀ v1 w1, d.R e w1 base ok v1 (xs ++ [p]) → W.grownBy w1 v.ownBlock → (v1.ownBlock = v.ownBlock ∨ ∃ b, v1.ownBlock = some b ∧ W.heap.size ≤ b) → Kc (a.put o.dst v1) w1) :
  if Region.wanted o (yielded ops a.tmps) = true then Oper.wp P o a W Kc Q else E := by
 obtain ⟨h0, inner, hown, hr⟩ := HO
 obtain ⟨i0, hi, hzz⟩ := Option.map_eq_some_iff.1 hinfo
 simp only [Prod.mk.injEq] at hzz
 obtain ⟨hz0, hz1, hz2⟩ := hzz
 have hlen : xs.length + 1 ≤ 140737488355328 := Nat.le_trans (Nat.le_mul_of_pos_right _ hb0) hl
 have hcs := d.K_len (d.K_of_M hp)
 rw [if_pos hw]
 obtain ⟨v1, w1, hr1, hown1, hg, _, hat⟩ := run_append_own_at (P := P) W base t o.type e i0 z d.sz bytes ht hi hz0 hz1 hz2 hz hs0 v xs.length inner hown ⟨g, 0, none⟩ 1 1 cs (by rw [hcs]; simp)
  (by simpa using World.news_of_block (cs := cs.toArray) (t := e) (fr := (0, 0)) hbx) (d.K_one (d.K_of_M hp)) (by simp only [maxLen]; omega) hl hbase
 have hat2 : v1.ownBlock = v.ownBlock ∨ ∃ b, v1.ownBlock = some b ∧ W.heap.size ≤ b := hat.elim Or.inl (fun e => Or.inr ⟨_, e, Nat.le_refl _⟩)
 unfold Oper.wp execOp
 simp only [ho, resolve, invoke, builtin, Sem.run_bind, Sem.run_pure, Result.andThen_ok, List.map_toArray, List.map_cons, List.map_nil, hs, hx, hr1]
 exact h v1 w1 (Kd.R_appended h0 hr hp hokp hfresh hown1 hg hat2) hg hat2
end
theorem R_lastcell {α : Type} {d : Kd α} {e base g n cap : Nat} {ok : Nat → Prop} {W : World} {xs : List α} {z : α} (h : d.R e W base ok (.slice (some ⟨g, 0, none⟩) n cap) (xs ++ [z])) (i o : Nat) (hoo : o = xs.length * d.sz + i) (hi : i < d.sz) : ∃ u, W.cell? ⟨g, o, none⟩ = some u ∧ W.frozen? ⟨g, o, none⟩ = false := by
 subst hoo
 obtain ⟨cells, hc⟩ := Kd.R_typed h g (by simp [Value.ownBlock])
 obtain ⟨h0, inner, ho, hr⟩ := h
 have hlen : inner.length = xs.length * d.sz + d.sz := by
  have := hr.1
  rw [List.length_append, List.length_singleton, Nat.add_mul, Nat.one_mul] at this
  exact this
 have hlt : xs.length * d.sz + i < inner.length := by omega
 have hn : n = (xs ++ [z]).length := by
  obtain ⟨A, c, e1⟩ := own_slice ho
  injection e1
 subst hn
 have q := ho.cells (g := g) rfl (xs.length * d.sz + i) inner[xs.length * d.sz + i] (List.getElem?_eq_getElem hlt)
 rw [add_plain] at q
 exact ⟨_, q, by simp [World.frozen?, hc]⟩
def zmsg : PMsg := ⟨⟨#[]⟩, [], [], [], [], [], []⟩
theorem PAt.gr {base b : Nat} {X : PFix} {W W' : World} {s : PS} {row : Option Nat} (h : PAt b X W s) (hg : W.grownBy W' row) (hr : ∀ i, row = some i → base ≤ i) (hb : b < base) : PAt b X W' s :=
 PAt.far h (Ch.then_grown (Ch.refl (fun k => base ≤ k) W) hg (fun i _ e => hr i e)) hb
theorem elem_in {base bm b g9 sz : Nat} {W w1 w9 : World} {L : List Value} {v v1 v2 v3 v4 v5 v6 : Value} {x : PMsg} (hM : k48.M w1 (sz + 1) (fun k => sz < k) x [.string x.f0, v1, v2, v3, v4, v5, v6]) (hW : W.heap.size ≤ sz) (hb : base ≤ W.heap.size)
  (hF : ∀ k, W.heap.size ≤ k → okL bm b L k ∧ some k ≠ v.ownBlock) (hg : w1.grownBy w9 v.ownBlock) (hat : some g9 = v.ownBlock ∨ w1.heap.size ≤ g9) : k48.M w9 base (fun k => okL bm b L k ∧ k ≠ g9) x [.string x.f0, v1, v2, v3, v4, v5, v6] := by
 have h1 := k48.M_move (w1 := w9) (fun k hk => hg.block k hk.2.2.1 (hF k (by have := hk.1; omega)).2) (k48.M_bound hM)
 refine M_msg (w1 := w1) h1 (by omega) (fun k hk => ⟨(hF k (by have := hk.1; omega)).1, fun e => ?_⟩)
 subst e
 rcases hat with h | h
 ·exact (hF k (by have := hk.1; omega)).2 h
 ·have := hk.2.2.1; omega
theorem setCell_comm {w : World} {g1 o1 g2 o2 : Nat} {u v : Value} (h : g1 ≠ g2) : (w.setCell ⟨g1, o1, none⟩ u).setCell ⟨g2, o2, none⟩ v = (w.setCell ⟨g2, o2, none⟩ v).setCell ⟨g1, o1, none⟩ u := by
 simp only [World.setCell]
 congr 1
 apply Array.ext_getElem?
 intro i
 simp only [Array.getElem?_modify]
 by_cases h1 : g1 = i
 ·by_cases h2 : g2 = i
  ·exact absurd (h1.trans h2.symm) h
  ·simp [h1, h2]
 ·by_cases h2 : g2 = i
  ·simp [h1, h2]
  ·simp [h1, h2]
theorem setL_comm {g bm j : Nat} {v : Value} (h : g ≠ bm) : ∀ {cs : List Value} {w : World} {o : Nat}, setL (w.setCell ⟨bm, j, none⟩ v) g o cs = (setL w g o cs).setCell ⟨bm, j, none⟩ v
 | [], _, _ => rfl
 | c :: cs, w, o => by
  simp only [setL]
  rw [setCell_comm (Ne.symm h), setL_comm h]
theorem setL7 {w : World} {g o : Nat} {a0 a1 a2 a3 a4 a5 a6 : Value} : setL w g o [a0, a1, a2, a3, a4, a5, a6] = ((((((w.setCell ⟨g, o, none⟩ a0).setCell ⟨g, o + 1, none⟩ a1).setCell ⟨g, o + 2, none⟩ a2).setCell ⟨g, o + 3, none⟩ a3).setCell ⟨g, o + 4, none⟩ a4).setCell ⟨g, o + 5, none⟩ a5).setCell ⟨g, o + 6, none⟩ a6 := rfl
theorem PAt.far' {b : Nat} {X : PFix} {W W' : World} {s : PS} (h : PAt b X W s) (hc : Ch (fun _ => False) W W') : PAt b X W' s := h.ch hc (fun h => h) (fun _ _ h => h)
set_option maxHeartbeats 8000000 in
set_option maxRecDepth 100000 in
theorem members1_calls (k : Nat) (hmsg : MsgOK k) (base b bm gt gm : Nat) (X : PFix) (m : PMsg) (s : PS) (r : PR PMsg) (hr : (Pm.bo (Pm.message X.e k s) fun x s => if m.f3.length < 549755813888 then some (.ok ({ m with f3 := m.f3 ++ [x] }, s)) else none) = some r) (W : World) (h : PAt b X W s) (hM : MInv base b bm W m) (hE : TabE b gt X W) (hT : TabM b gm X W) :
  Calls Tryd.prog 45 #[.pointer (some ⟨b, 0, none⟩), .pointer (some ⟨bm, 0, none⟩)] W (PostM base b bm X W r) := by
 have HMsg := Aside0.mk hmsg
 have HP := Aside0.mk h
 have HE := Aside0.mk hE
 have HT := Aside0.mk hT
 have HM0 := Aside0.mk hM
 have HR := Aside0.mk hr
 obtain ⟨v0, L, h1, hr1, hf1, hbs1, hlt1, hn1⟩ := MInv.appG3 hM
 obtain ⟨A7, n7, c7, rfl⟩ := R_slice3 hr1
 have hn7 : n7 = m.f3.length := by obtain ⟨_, _, e⟩ := Kd.R_slice hr1; injection e
 subst hn7
 have q0 : W.cell? ⟨bm, 3, none⟩ = some (.slice A7 m.f3.length c7) := h1.1
 have g0 : W.frozen? ⟨bm, 3, none⟩ = false := h1.2.1 3
 have l0 : bm < W.heap.size := h1.2.2
 have HQ0 := Aside0.mk h1
 have HR1 := Aside0.mk hr1
 have HF1 := Aside0.mk hf1
 have HS1 := Aside0.mk hbs1
 have HT1 := Aside0.mk hlt1
 have HN1 := Aside0.mk hn1
 have HBb := Aside0.mk hM.lt.2.2
 clear h hM hE hT hr h1 hr1 hf1 hbs1 hlt1 hn1 hmsg
 go_enter Tryd.func45, Tryd.ntmps45
 go_wp2
 go_region_law (first | (refine Kd.R_append_step k48 (w0 := w1) (W := w1) base rfl (.tmp 7) (.tmp 11) 26 48 (.agg #[(.string ⟨#[]⟩), (.slice none 0 0), (.slice none 0 0), (.slice none 0 0), (.slice none 0 0), (.slice none 0 0), (.slice none 0 0)]) 160 rfl Tryd.underlying26 info_msg rfl (by decide) (by decide) (.slice A7 m.f3.length c7) m.f3 zmsg [.string ⟨#[]⟩, .slice none 0 0, .slice none 0 0, .slice none 0 0, .slice none 0 0, .slice none 0 0, .slice none 0 0] (okL bm b L) (fun k => False) (by simp [Act.eval, Act.put]) (by simp [Act.eval, Act.put]) (k48_mkM _ _ _ zmsg (Kd.R_nil _ _ _ _ _) (Kd.R_nil _ _ _ _ _) (Kd.R_nil _ _ _ _ _) (Kd.R_nil _ _ _ _ _) (Kd.R_nil _ _ _ _ _) (Kd.R_nil _ _ _ _ _)) (fun k hk => hk.elim) (fun k hk => (HF1.out k (Nat.le_trans HC.out.size hk)).1) HRw.out (Below.refl _ _) (Nat.le_trans HS1.out HC.out.size) (by have := HL.out; omega) ?_; intro v9 w9 ho hb hg hat; clear hb; obtain ⟨g9, c9, e9, hg9, hl9, hc9⟩ := Kd.R_form ho (by simp); have HO9 := Aside0.mk ho; subst e9; obtain ⟨u0, p0, f0⟩ := R_lastcell ho 0 (m.f3.length * 7) rfl (by show 0 < 7; decide); obtain ⟨u1, p1, f1⟩ := R_lastcell ho 1 (m.f3.length * 7 + 1) rfl (by show 1 < 7; decide); obtain ⟨u2, p2, f2⟩ := R_lastcell ho 2 (m.f3.length * 7 + 2) rfl (by show 2 < 7; decide); obtain ⟨u3, p3, f3⟩ := R_lastcell ho 3 (m.f3.length * 7 + 3) rfl (by show 3 < 7; decide); obtain ⟨u4, p4, f4⟩ := R_lastcell ho 4 (m.f3.length * 7 + 4) rfl (by show 4 < 7; decide); obtain ⟨u5, p5, f5⟩ := R_lastcell ho 5 (m.f3.length * 7 + 5) rfl (by show 5 < 7; decide); obtain ⟨u6, p6, f6⟩ := R_lastcell ho 6 (m.f3.length * 7 + 6) rfl (by show 6 < 7; decide); have HME9 := Aside0.mk (elem_in (g9 := g9) HMk.out HWc.out HS1.out HF1.out hg (hat.elim (fun e => Or.inl e) (fun ⟨g, e, h⟩ => Or.inr (by have e2 : g9 = g := Option.some.inj e; omega)))); have HP9 := Aside0.mk (PAt.gr (base := base) HP1.out hg (fun i e => (HT1.out i e).2) HBb.out); have hch9 : Ch (fun k => k = b ∨ some k = (Value.slice A7 m.f3.length c7).ownBlock) W w9 := (HC.out.mono (fun _ _ h => .inl h)).then_grown hg (fun i _ e => .inr e.symm); have hat9 : (Value.slice (some ⟨g9, 0, none⟩) (m.f3 ++ [zmsg]).length c9).ownBlock = (Value.slice A7 m.f3.length c7).ownBlock ∨ ∃ g, (Value.slice (some ⟨g9, 0, none⟩) (m.f3 ++ [zmsg]).length c9).ownBlock = some g ∧ W.heap.size ≤ g := hat.elim (fun e => Or.inl e) (fun ⟨g, e, h⟩ => Or.inr ⟨g, e, Nat.le_trans HC.out.size h⟩); have hbg : g9 ≠ bm := (ho.1 g9 (by simp [Value.ownBlock])).1; have hbg2 := hbg.symm; have hcl := (HN1.out w9 _ _ ho hch9 hat9).1; have q9 : w9.cell? ⟨bm, 3, none⟩ = some (.slice A7 m.f3.length c7) := hcl.1; have gg9 : w9.frozen? ⟨bm, 3, none⟩ = false := hcl.2.1 3; have l9 : bm < w9.heap.size := hcl.2.2; clear hcl; have HCh9 := Aside0.mk hch9; have HAt9 := Aside0.mk hat9; have Hg9 := Aside0.mk hg9; clear hch9 hat9; have hidx : ((m.f3.length : Int) < (m.f3.length : Int) + 1) := (by omega); clear ho hg hat) | (refine R_append_step_at k48 (W := w1) base rfl (.tmp 7) (.tmp 11) 26 48 (.agg #[(.string ⟨#[]⟩), (.slice none 0 0), (.slice none 0 0), (.slice none 0 0), (.slice none 0 0), (.slice none 0 0), (.slice none 0 0)]) 160 rfl Tryd.underlying26 info_msg rfl (by decide) (by decide) (.slice A7 m.f3.length c7) m.f3 zmsg [.string ⟨#[]⟩, .slice none 0 0, .slice none 0 0, .slice none 0 0, .slice none 0 0, .slice none 0 0, .slice none 0 0] (okL bm b L) (fun k => False) (by simp [Act.eval, Act.put]) W.heap.size (by simp [Act.eval, Act.put]) HBx.out (k48_mkM _ _ _ zmsg (Kd.R_nil _ _ _ _ _) (Kd.R_nil _ _ _ _ _) (Kd.R_nil _ _ _ _ _) (Kd.R_nil _ _ _ _ _) (Kd.R_nil _ _ _ _ _) (Kd.R_nil _ _ _ _ _)) (fun k hk => hk.elim) (fun k hk => (HF1.out k (Nat.le_trans HC.out.size hk)).1) HRw.out (Nat.le_trans HS1.out HC.out.size) (by have := HL.out; omega) ?_; intro v9 w9 ho hg hat; obtain ⟨g9, c9, e9, hg9, hl9, hc9⟩ := Kd.R_form ho (by simp); have HO9 := Aside0.mk ho; subst e9; obtain ⟨u0, p0, f0⟩ := R_lastcell ho 0 (m.f3.length * 7) rfl (by show 0 < 7; decide); obtain ⟨u1, p1, f1⟩ := R_lastcell ho 1 (m.f3.length * 7 + 1) rfl (by show 1 < 7; decide); obtain ⟨u2, p2, f2⟩ := R_lastcell ho 2 (m.f3.length * 7 + 2) rfl (by show 2 < 7; decide); obtain ⟨u3, p3, f3⟩ := R_lastcell ho 3 (m.f3.length * 7 + 3) rfl (by show 3 < 7; decide); obtain ⟨u4, p4, f4⟩ := R_lastcell ho 4 (m.f3.length * 7 + 4) rfl (by show 4 < 7; decide); obtain ⟨u5, p5, f5⟩ := R_lastcell ho 5 (m.f3.length * 7 + 5) rfl (by show 5 < 7; decide); obtain ⟨u6, p6, f6⟩ := R_lastcell ho 6 (m.f3.length * 7 + 6) rfl (by show 6 < 7; decide); have HME9 := Aside0.mk (elem_in (g9 := g9) HMk.out HWc.out HS1.out HF1.out hg (hat.elim (fun e => Or.inl e) (fun ⟨g, e, h⟩ => Or.inr (by have e2 : g9 = g := Option.some.inj e; omega)))); have HP9 := Aside0.mk (PAt.gr (base := base) HP1.out hg (fun i e => (HT1.out i e).2) HBb.out); have hch9 : Ch (fun k => k = b ∨ some k = (Value.slice A7 m.f3.length c7).ownBlock) W w9 := (HC.out.mono (fun _ _ h => .inl h)).then_grown hg (fun i _ e => .inr e.symm); have hat9 : (Value.slice (some ⟨g9, 0, none⟩) (m.f3 ++ [zmsg]).length c9).ownBlock = (Value.slice A7 m.f3.length c7).ownBlock ∨ ∃ g, (Value.slice (some ⟨g9, 0, none⟩) (m.f3 ++ [zmsg]).length c9).ownBlock = some g ∧ W.heap.size ≤ g := hat.elim (fun e => Or.inl e) (fun ⟨g, e, h⟩ => Or.inr ⟨g, e, Nat.le_trans HC.out.size h⟩); have hbg : g9 ≠ bm := (ho.1 g9 (by simp [Value.ownBlock])).1; have hbg2 := hbg.symm; have hcl := (HN1.out w9 _ _ ho hch9 hat9).1; have q9 : w9.cell? ⟨bm, 3, none⟩ = some (.slice A7 m.f3.length c7) := hcl.1; have gg9 : w9.frozen? ⟨bm, 3, none⟩ = false := hcl.2.1 3; have l9 : bm < w9.heap.size := hcl.2.2; clear hcl; have HCh9 := Aside0.mk hch9; have HAt9 := Aside0.mk hat9; have Hg9 := Aside0.mk hg9; clear hch9 hat9; have hidx : ((m.f3.length : Int) < (m.f3.length : Int) + 1) := (by omega); clear ho hg hat) | (go_simp; go_at_call 42; rcases bo_cases HR.out with ⟨y, hy, hr2⟩ | ⟨x, s1, hy, hr2⟩; (subst hr2; refine (HMsg.out b gt gm X s _ (W.drew) hy (PAt.far' HP.out (Ch.drew (Ch.refl _ W))) (HE.out.ch (S := fun _ => False) (Ch.drew (Ch.refl _ W)) (fun h => h)) (HT.out.ch (S := fun _ => False) (Ch.drew (Ch.refl _ W)) (fun h => h))).mono ?_; rintro e w1 ⟨rfl, hC⟩; exact ⟨rfl, rfl, (Ch.sm (Ch.trans (Ch.drew (Ch.refl _ W)) hC) : Ch (SM b base) W w1)⟩); (refine (HMsg.out b gt gm X s _ (W.drew) hy (PAt.far' HP.out (Ch.drew (Ch.refl _ W))) (HE.out.ch (S := fun _ => False) (Ch.drew (Ch.refl _ W)) (fun h => h)) (HT.out.ch (S := fun _ => False) (Ch.drew (Ch.refl _ W)) (fun h => h))).mono ?_; rintro e w1 ⟨⟨e1, e2, e3, e4, e5, e6, rfl, hMk⟩, hP, hC⟩; have hl2 : m.f3.length < 549755813888 := Decidable.byContradiction (fun cl => absurd hr2 (by rw [if_neg cl]; simp)); rw [if_pos hl2] at hr2; obtain rfl := Option.some.inj hr2; have HL := Aside0.mk hl2; have HP1 := Aside0.mk hP; have hC2 : Ch (· = b) W w1 := Ch.trans (Ch.drew (Ch.refl _ W)) hC; have HC := Aside0.mk hC2; have HWc := Aside0.mk (((Ch.drew (Ch.refl _ W)) : Ch (fun _ => False) W (W.drew)).size); obtain ⟨t1, t2, t3, t4, t5, t6, eu, a1, a2, a3, a4, a5, a6⟩ := k48_openM hMk; simp only [List.cons.injEq, true_and, and_true] at eu; obtain ⟨rfl, rfl, rfl, rfl, rfl, rfl⟩ := eu; obtain ⟨B1, o1, d1, rfl⟩ := R_slice3 a1; obtain ⟨B2, o2, d2, rfl⟩ := R_slice3 a2; obtain ⟨B3, o3, d3, rfl⟩ := R_slice3 a3; obtain ⟨B4, o4, d4, rfl⟩ := R_slice3 a4; obtain ⟨B5, o5, d5, rfl⟩ := R_slice3 a5; obtain ⟨B6, o6, d6, rfl⟩ := R_slice3 a6; clear a1 a2 a3 a4 a5 a6; have HMk := Aside0.mk hMk; have HRw := Aside0.mk (row_ch HR1.out hC2 (fun k _ _ h _ => h)); have q1 : w1.cell? ⟨bm, 3, none⟩ = some (.slice A7 m.f3.length c7) := (HC.out.cell (fun e_ => by have := HM0.out.lt; omega) HQ0.out.2.2 3).trans HQ0.out.1; have l1 : bm < w1.heap.size := Nat.lt_of_lt_of_le HQ0.out.2.2 HC.out.size; clear hMk hP hC hC2 hl2 hr2 hy)) | (go_simp; go_at_call 42; rcases bo_cases HR.out with ⟨y, hy, hr2⟩ | ⟨x, s1, hy, hr2⟩; (subst hr2; refine (HMsg.out b gt gm X s _ ((W.alloc (.cells #[.string ⟨#[]⟩, .slice none 0 0, .slice none 0 0, .slice none 0 0, .slice none 0 0, .slice none 0 0, .slice none 0 0] 48)).drew) hy (PAt.far' HP.out (Ch.drew (Ch.alloc (Ch.refl _ W) (.cells #[.string ⟨#[]⟩, .slice none 0 0, .slice none 0 0, .slice none 0 0, .slice none 0 0, .slice none 0 0, .slice none 0 0] 48)))) (HE.out.ch (S := fun _ => False) (Ch.drew (Ch.alloc (Ch.refl _ W) (.cells #[.string ⟨#[]⟩, .slice none 0 0, .slice none 0 0, .slice none 0 0, .slice none 0 0, .slice none 0 0, .slice none 0 0] 48))) (fun h => h)) (HT.out.ch (S := fun _ => False) (Ch.drew (Ch.alloc (Ch.refl _ W) (.cells #[.string ⟨#[]⟩, .slice none 0 0, .slice none 0 0, .slice none 0 0, .slice none 0 0, .slice none 0 0, .slice none 0 0] 48))) (fun h => h))).mono ?_; rintro e w1 ⟨rfl, hC⟩; exact ⟨rfl, rfl, (Ch.sm (Ch.trans (Ch.drew (Ch.alloc (Ch.refl _ W) (.cells #[.string ⟨#[]⟩, .slice none 0 0, .slice none 0 0, .slice none 0 0, .slice none 0 0, .slice none 0 0, .slice none 0 0] 48))) hC) : Ch (SM b base) W w1)⟩); (refine (HMsg.out b gt gm X s _ ((W.alloc (.cells #[.string ⟨#[]⟩, .slice none 0 0, .slice none 0 0, .slice none 0 0, .slice none 0 0, .slice none 0 0, .slice none 0 0] 48)).drew) hy (PAt.far' HP.out (Ch.drew (Ch.alloc (Ch.refl _ W) (.cells #[.string ⟨#[]⟩, .slice none 0 0, .slice none 0 0, .slice none 0 0, .slice none 0 0, .slice none 0 0, .slice none 0 0] 48)))) (HE.out.ch (S := fun _ => False) (Ch.drew (Ch.alloc (Ch.refl _ W) (.cells #[.string ⟨#[]⟩, .slice none 0 0, .slice none 0 0, .slice none 0 0, .slice none 0 0, .slice none 0 0, .slice none 0 0] 48))) (fun h => h)) (HT.out.ch (S := fun _ => False) (Ch.drew (Ch.alloc (Ch.refl _ W) (.cells #[.string ⟨#[]⟩, .slice none 0 0, .slice none 0 0, .slice none 0 0, .slice none 0 0, .slice none 0 0, .slice none 0 0] 48))) (fun h => h))).mono ?_; rintro e w1 ⟨⟨e1, e2, e3, e4, e5, e6, rfl, hMk⟩, hP, hC⟩; have hl2 : m.f3.length < 549755813888 := Decidable.byContradiction (fun cl => absurd hr2 (by rw [if_neg cl]; simp)); rw [if_pos hl2] at hr2; obtain rfl := Option.some.inj hr2; have HL := Aside0.mk hl2; have HP1 := Aside0.mk hP; have hC2 : Ch (· = b) W w1 := Ch.trans (Ch.drew (Ch.alloc (Ch.refl _ W) (.cells #[.string ⟨#[]⟩, .slice none 0 0, .slice none 0 0, .slice none 0 0, .slice none 0 0, .slice none 0 0, .slice none 0 0] 48))) hC; have HC := Aside0.mk hC2; have HWc := Aside0.mk (((Ch.drew (Ch.alloc (Ch.refl _ W) (.cells #[.string ⟨#[]⟩, .slice none 0 0, .slice none 0 0, .slice none 0 0, .slice none 0 0, .slice none 0 0, .slice none 0 0] 48))) : Ch (fun _ => False) W ((W.alloc (.cells #[.string ⟨#[]⟩, .slice none 0 0, .slice none 0 0, .slice none 0 0, .slice none 0 0, .slice none 0 0, .slice none 0 0] 48)).drew)).size); have HBx := Aside0.mk ((hC.block W.heap.size (by simp) (Nat.ne_of_gt HP.out.lt)).trans (bx_dr (blk_new W (.cells #[.string ⟨#[]⟩, .slice none 0 0, .slice none 0 0, .slice none 0 0, .slice none 0 0, .slice none 0 0, .slice none 0 0] 48)))); obtain ⟨t1, t2, t3, t4, t5, t6, eu, a1, a2, a3, a4, a5, a6⟩ := k48_openM hMk; simp only [List.cons.injEq, true_and, and_true] at eu; obtain ⟨rfl, rfl, rfl, rfl, rfl, rfl⟩ := eu; obtain ⟨B1, o1, d1, rfl⟩ := R_slice3 a1; obtain ⟨B2, o2, d2, rfl⟩ := R_slice3 a2; obtain ⟨B3, o3, d3, rfl⟩ := R_slice3 a3; obtain ⟨B4, o4, d4, rfl⟩ := R_slice3 a4; obtain ⟨B5, o5, d5, rfl⟩ := R_slice3 a5; obtain ⟨B6, o6, d6, rfl⟩ := R_slice3 a6; clear a1 a2 a3 a4 a5 a6; have HMk := Aside0.mk hMk; have HRw := Aside0.mk (row_ch HR1.out hC2 (fun k _ _ h _ => h)); have q1 : w1.cell? ⟨bm, 3, none⟩ = some (.slice A7 m.f3.length c7) := (HC.out.cell (fun e_ => by have := HM0.out.lt; omega) HQ0.out.2.2 3).trans HQ0.out.1; have l1 : bm < w1.heap.size := Nat.lt_of_lt_of_le HQ0.out.2.2 HC.out.size; clear hMk hP hC hC2 hl2 hr2 hy)))
 all_goals go_end0
 all_goals
  have hL0 := R_last (d := k48) HO9.out HME9.out (fun k hk => hk)
  have hL : k48.R 48 (setL w9 g9 (m.f3.length * 7) [.string x.f0, .slice B1 o1 d1, .slice B2 o2 d2, .slice B3 o3 d3, .slice B4 o4 d4, .slice B5 o5 d5, .slice B6 o6 d6]) base (okL bm b L) (.slice (some ⟨g9, 0, none⟩) (m.f3 ++ [zmsg]).length c9) (m.f3 ++ [x]) ∧ w9.grownBy (setL w9 g9 (m.f3.length * 7) [.string x.f0, .slice B1 o1 d1, .slice B2 o2 d2, .slice B3 o3 d3, .slice B4 o4 d4, .slice B5 o5 d5, .slice B6 o6 d6]) (some g9) := hL0
  clear hL0
  have hc9 := HCh9.out.then_grown hL.2 (fun i hi e => HAt9.out.elim (fun e2 => Or.inr (e.symm.trans e2)) (fun ⟨g, e2, h2⟩ => by injection e with e; injection e2 with e2; subst e; subst e2; exact absurd hi (Nat.not_lt.mpr h2)))
  have hcl := HN1.out _ _ _ hL.1 hc9 HAt9.out
  have hpe := PAt.st (PAt.gr (base := base) HP9.out hL.2 (fun i e => by injection e with e; subst e; exact Hg9.out) HBb.out) ⟨Nat.lt_of_lt_of_le HM0.out.lt.2.2 HM0.out.lt.2.1, HP9.out.ge⟩ (j := 3) (.slice (some ⟨g9, 0, none⟩) (m.f3 ++ [zmsg]).length c9)
  have hfin : PostM base b bm X W (.ok ({ m with f3 := m.f3 ++ [x] }, s1)) (.returned (.tuple #[])) ((setL w9 g9 (m.f3.length * 7) [.string x.f0, .slice B1 o1 d1, .slice B2 o2 d2, .slice B3 o3 d3, .slice B4 o4 d4, .slice B5 o5 d5, .slice B6 o6 d6]).setCell ⟨bm, 3, none⟩ (.slice (some ⟨g9, 0, none⟩) (m.f3 ++ [zmsg]).length c9)) := ⟨rfl, hpe, hcl.2.1, hcl.2.2⟩
  have hlen : (m.f3 ++ [zmsg]).length = m.f3.length + 1 := by simp
  clear hL hc9 hcl hpe
  rw [hlen] at hfin
 all_goals first
  | (rw [setL7] at hfin; with_reducible exact hfin)
  | (rw [← setL_comm hbg, setL7] at hfin; with_reducible exact hfin)
end Go.Proofs.YtgkodenllfpajaaDoor.A
end
section
namespace Go.Proofs.YtgkodenllfpajaaDoor.A
open Go.RowKit Go.Proofs.YtgkodenllfpajaaDoorW.PrintWords Go.Proofs.YtgkodenllfpajaaDoorW.PrintLast Go.Proofs.YtgkodenllfpajaaDoorW.PrintMore
set_option linter.unusedVariables false
set_option linter.unusedSimpArgs false
theorem wlMessage : Pm.wMessage.toList = ([109, 101, 115, 115, 97, 103, 101] : List UInt8) := by simp [Pm.wMessage, go_sem]
theorem wlEnum : Pm.wEnum.toList = ([101, 110, 117, 109] : List UInt8) := by simp [Pm.wEnum, go_sem]
theorem wlOneof : Pm.wOneof.toList = ([111, 110, 101, 111, 102] : List UInt8) := by simp [Pm.wOneof, go_sem]
theorem wlReserved : Pm.wReserved.toList = ([114, 101, 115, 101, 114, 118, 101, 100] : List UInt8) := by simp [Pm.wReserved, go_sem]
theorem wlOptional : Pm.wOptional.toList = ([111, 112, 116, 105, 111, 110, 97, 108] : List UInt8) := by simp [Pm.wOptional, go_sem]
theorem wlRepeated : Pm.wRepeated.toList = ([114, 101, 112, 101, 97, 116, 101, 100] : List UInt8) := by simp [Pm.wRepeated, go_sem]
theorem wlOption : Pm.wOption.toList = ([111, 112, 116, 105, 111, 110] : List UInt8) := by simp [Pm.wOption, go_sem]
theorem wlExtend : Pm.wExtend.toList = ([101, 120, 116, 101, 110, 100] : List UInt8) := by simp [Pm.wExtend, go_sem]
theorem wlExtensions : Pm.wExtensions.toList = ([101, 120, 116, 101, 110, 115, 105, 111, 110, 115] : List UInt8) := by simp [Pm.wExtensions, go_sem]
theorem wlGroup : Pm.wGroup.toList = ([103, 114, 111, 117, 112] : List UInt8) := by simp [Pm.wGroup, go_sem]
theorem wlRequired : Pm.wRequired.toList = ([114, 101, 113, 117, 105, 114, 101, 100] : List UInt8) := by simp [Pm.wRequired, go_sem]
theorem wlPackage : Pm.wPackage.toList = ([112, 97, 99, 107, 97, 103, 101] : List UInt8) := by simp [Pm.wPackage, go_sem]
theorem wlImport : Pm.wImport.toList = ([105, 109, 112, 111, 114, 116] : List UInt8) := by simp [Pm.wImport, go_sem]
theorem wlService : Pm.wService.toList = ([115, 101, 114, 118, 105, 99, 101] : List UInt8) := by simp [Pm.wService, go_sem]
def PostH (base b bm : Nat) (X : PFix) (W : World) (r : PR PMsg) (e : Ending) (w' : World) : Prop :=
 match r with
 | .ok (m, s) => e = .returned (.bool true) ∧ PAt b X w' s ∧ MInv base b bm w' m ∧ Ch (SM b base) W w'
 | .error x => e = thrown x.1 x.2 ∧ Ch (SM b base) W w'
theorem hitM {base b bm : Nat} {X : PFix} {W w w' : World} {r : PR PMsg} {e : Ending} (hC : Ch (· = b) W w) (hU : PostM base b bm X w r e w') : (e = .returned (.tuple #[]) ∧ PostH base b bm X W r (.returned (.bool true)) w') ∨ (∃ v, e = .panicked v ∧ PostH base b bm X W r e w') := by
 rcases r with y | ⟨m, s⟩
 ·exact Or.inr ⟨_, hU.1, hU.1, (Ch.sm hC).trans hU.2⟩
 ·exact Or.inl ⟨hU.1, rfl, hU.2.1, hU.2.2.1, (Ch.sm hC).trans hU.2.2.2⟩
theorem bo_addF {m : PMsg} {x : Option (PR PField)} {r : PR PMsg} (h : (Pm.bo x fun f s => if m.f1.length < 1099511627776 then some (.ok ({ m with f1 := m.f1 ++ [f] }, s)) else none) = some r) : ∃ u, x = some u ∧ (∀ a, u = .ok a → m.f1.length < 1099511627776) ∧ addF m u = r := by
 rcases bo_cases h with ⟨y, hy, hr2⟩ | ⟨f, s, hy, hr2⟩
 ·exact ⟨_, hy, (fun a e => nomatch e), hr2.symm⟩
 ·have hl : m.f1.length < 1099511627776 := Decidable.byContradiction (fun cl => absurd hr2 (by rw [if_neg cl]; simp))
  rw [if_pos hl] at hr2
  exact ⟨_, hy, fun a _ => hl, Option.some.inj hr2⟩
def Pm.chain (e : Int) (k : Nat) (m : PMsg) (s : PS) (D : Option (PR PMsg)) : Option (PR PMsg) :=
 if (Pm.now e s).f2.toList = Pm.wMessage.toList then Pm.bo (Pm.message e k s) fun x s => if m.f3.length < 549755813888 then some (.ok ({ m with f3 := m.f3 ++ [x] }, s)) else none
  else if (Pm.now e s).f2.toList = Pm.wEnum.toList then Pm.bo (Pm.enum k e s) fun x s => if m.f4.length < 1099511627776 then some (.ok ({ m with f4 := m.f4 ++ [x] }, s)) else none
  else if (Pm.now e s).f2.toList = Pm.wOneof.toList then Pm.oneof k e m s
  else if (Pm.now e s).f2.toList = Pm.wReserved.toList then Pm.bo (Pm.reserved k e false m.f5 m.f6 s) fun r s => some (.ok ({ m with f5 := r.1, f6 := r.2 }, s))
  else if ((Pm.now e s).f2.toList = Pm.wOptional.toList ∨ (Pm.now e s).f2.toList = Pm.wRepeated.toList) then Pm.bo (Pm.labelled k e s) fun f s => if m.f1.length < 1099511627776 then some (.ok ({ m with f1 := m.f1 ++ [f] }, s)) else none
  else if Pm.refusedM (Pm.now e s).f2 = true then some (Pm.fail e 52 s) else D
set_option maxHeartbeats 8000000 in
set_option maxRecDepth 100000 in
theorem startedM_yes (k : Nat) (hmsg : MsgOK k) (base b bm gt gm : Nat) (X : PFix) (m : PMsg) (s : PS) (r : PR PMsg) (D : Option (PR PMsg)) (hr : Pm.chain X.e k m s D = some r) (hin : (Pm.now X.e s).f2.toList ∈ wordsM) (W : World) (h : PAt b X W s) (hM : MInv base b bm W m) (hE : TabE b gt X W) (hT : TabM b gm X W) :
  Calls Tryd.prog 87 #[.pointer (some ⟨b, 0, none⟩), .slice (some ⟨gm, 0, none⟩) 11 11, .pointer (some ⟨bm, 0, none⟩)] W (PostH base b bm X W r) := by
 unfold Pm.chain at hr
 refine startedM_calls b gm X s (.pointer (some ⟨bm, 0, none⟩)) (PostH base b bm X W r) W h hT.2.2 hT.2.1 (fun hm => absurd rfl (hm _ hin)) ?_ ?_ ?_ ?_ ?_ ?_ ?_
 ·intro hw w hP hC
  rw [if_pos (hw.trans wlMessage.symm)] at hr
  exact (members1_calls k hmsg base b bm gt gm X m s r hr w hP (MInv.b hM hC) (hE.ch hC hE.2.1) (hT.ch hC hT.2.1)).mono (fun e w' hU => hitM hC hU)
 ·intro hw w hP hC
  rw [if_neg (fun e => absurd (hw.symm.trans (e.trans wlMessage)) (by decide))] at hr
  rw [if_pos (hw.trans wlEnum.symm)] at hr
  exact (members2_calls base b bm gt X k m s r hr w hP (MInv.b hM hC) (hE.ch hC hE.2.1)).mono (fun e w' hU => hitM hC hU)
 ·intro hw w hP hC
  rw [if_neg (fun e => absurd (hw.symm.trans (e.trans wlMessage)) (by decide))] at hr
  rw [if_neg (fun e => absurd (hw.symm.trans (e.trans wlEnum)) (by decide))] at hr
  rw [if_pos (hw.trans wlOneof.symm)] at hr
  exact (oneof_calls base b bm X k m s r hr w hP (MInv.b hM hC)).mono (fun e w' hU => hitM hC hU)
 ·intro hw w hP hC
  rw [if_neg (fun e => absurd (hw.symm.trans (e.trans wlMessage)) (by decide))] at hr
  rw [if_neg (fun e => absurd (hw.symm.trans (e.trans wlEnum)) (by decide))] at hr
  rw [if_neg (fun e => absurd (hw.symm.trans (e.trans wlOneof)) (by decide))] at hr
  rw [if_pos (hw.trans wlReserved.symm)] at hr
  exact (members3_calls base b bm X k m s r hr w hP (MInv.b hM hC)).mono (fun e w' hU => hitM hC hU)
 ·intro hw w hP hC
  rw [if_neg (fun e => absurd (hw.symm.trans (e.trans wlMessage)) (by decide))] at hr
  rw [if_neg (fun e => absurd (hw.symm.trans (e.trans wlEnum)) (by decide))] at hr
  rw [if_neg (fun e => absurd (hw.symm.trans (e.trans wlOneof)) (by decide))] at hr
  rw [if_neg (fun e => absurd (hw.symm.trans (e.trans wlReserved)) (by decide))] at hr
  rw [if_pos (Or.inl (hw.trans wlOptional.symm))] at hr
  obtain ⟨u, hu, hl, rfl⟩ := bo_addF hr
  exact (labelled_calls base b bm X k m s u hu hl w hP (MInv.b hM hC)).mono (fun e w' hU => hitM hC hU)
 ·intro hw w hP hC
  rw [if_neg (fun e => absurd (hw.symm.trans (e.trans wlMessage)) (by decide))] at hr
  rw [if_neg (fun e => absurd (hw.symm.trans (e.trans wlEnum)) (by decide))] at hr
  rw [if_neg (fun e => absurd (hw.symm.trans (e.trans wlOneof)) (by decide))] at hr
  rw [if_neg (fun e => absurd (hw.symm.trans (e.trans wlReserved)) (by decide))] at hr
  rw [if_pos (Or.inr (hw.trans wlRepeated.symm))] at hr
  obtain ⟨u, hu, hl, rfl⟩ := bo_addF hr
  exact (labelled_calls base b bm X k m s u hu hl w hP (MInv.b hM hC)).mono (fun e w' hU => hitM hC hU)
 ·intro hw w' hC
  have hr52 : some (Pm.fail (α := PMsg) X.e 52 s) = some r := by
   rcases hw with hw | hw | hw | hw | hw
   ·rw [if_neg (fun e => absurd (hw.symm.trans (e.trans wlMessage)) (by decide))] at hr
    rw [if_neg (fun e => absurd (hw.symm.trans (e.trans wlEnum)) (by decide))] at hr
    rw [if_neg (fun e => absurd (hw.symm.trans (e.trans wlOneof)) (by decide))] at hr
    rw [if_neg (fun e => absurd (hw.symm.trans (e.trans wlReserved)) (by decide))] at hr
    rw [if_neg (fun e => e.elim (fun e => absurd (hw.symm.trans (e.trans wlOptional)) (by decide)) (fun e => absurd (hw.symm.trans (e.trans wlRepeated)) (by decide)))] at hr
    rw [if_pos (by unfold Pm.refusedM; rw [hw, wlOption, wlExtend, wlExtensions, wlGroup, wlRequired]; decide)] at hr
    exact hr
   ·rw [if_neg (fun e => absurd (hw.symm.trans (e.trans wlMessage)) (by decide))] at hr
    rw [if_neg (fun e => absurd (hw.symm.trans (e.trans wlEnum)) (by decide))] at hr
    rw [if_neg (fun e => absurd (hw.symm.trans (e.trans wlOneof)) (by decide))] at hr
    rw [if_neg (fun e => absurd (hw.symm.trans (e.trans wlReserved)) (by decide))] at hr
    rw [if_neg (fun e => e.elim (fun e => absurd (hw.symm.trans (e.trans wlOptional)) (by decide)) (fun e => absurd (hw.symm.trans (e.trans wlRepeated)) (by decide)))] at hr
    rw [if_pos (by unfold Pm.refusedM; rw [hw, wlOption, wlExtend, wlExtensions, wlGroup, wlRequired]; decide)] at hr
    exact hr
   ·rw [if_neg (fun e => absurd (hw.symm.trans (e.trans wlMessage)) (by decide))] at hr
    rw [if_neg (fun e => absurd (hw.symm.trans (e.trans wlEnum)) (by decide))] at hr
    rw [if_neg (fun e => absurd (hw.symm.trans (e.trans wlOneof)) (by decide))] at hr
    rw [if_neg (fun e => absurd (hw.symm.trans (e.trans wlReserved)) (by decide))] at hr
    rw [if_neg (fun e => e.elim (fun e => absurd (hw.symm.trans (e.trans wlOptional)) (by decide)) (fun e => absurd (hw.symm.trans (e.trans wlRepeated)) (by decide)))] at hr
    rw [if_pos (by unfold Pm.refusedM; rw [hw, wlOption, wlExtend, wlExtensions, wlGroup, wlRequired]; decide)] at hr
    exact hr
   ·rw [if_neg (fun e => absurd (hw.symm.trans (e.trans wlMessage)) (by decide))] at hr
    rw [if_neg (fun e => absurd (hw.symm.trans (e.trans wlEnum)) (by decide))] at hr
    rw [if_neg (fun e => absurd (hw.symm.trans (e.trans wlOneof)) (by decide))] at hr
    rw [if_neg (fun e => absurd (hw.symm.trans (e.trans wlReserved)) (by decide))] at hr
    rw [if_neg (fun e => e.elim (fun e => absurd (hw.symm.trans (e.trans wlOptional)) (by decide)) (fun e => absurd (hw.symm.trans (e.trans wlRepeated)) (by decide)))] at hr
    rw [if_pos (by unfold Pm.refusedM; rw [hw, wlOption, wlExtend, wlExtensions, wlGroup, wlRequired]; decide)] at hr
    exact hr
   ·rw [if_neg (fun e => absurd (hw.symm.trans (e.trans wlMessage)) (by decide))] at hr
    rw [if_neg (fun e => absurd (hw.symm.trans (e.trans wlEnum)) (by decide))] at hr
    rw [if_neg (fun e => absurd (hw.symm.trans (e.trans wlOneof)) (by decide))] at hr
    rw [if_neg (fun e => absurd (hw.symm.trans (e.trans wlReserved)) (by decide))] at hr
    rw [if_neg (fun e => e.elim (fun e => absurd (hw.symm.trans (e.trans wlOptional)) (by decide)) (fun e => absurd (hw.symm.trans (e.trans wlRepeated)) (by decide)))] at hr
    rw [if_pos (by unfold Pm.refusedM; rw [hw, wlOption, wlExtend, wlExtensions, wlGroup, wlRequired]; decide)] at hr
    exact hr
  obtain rfl := Option.some.inj hr52
  exact ⟨rfl, Ch.sm hC⟩
theorem Pm.chain_no {e : Int} {k : Nat} {m : PMsg} {s : PS} {D : Option (PR PMsg)} (h : (Pm.now e s).f2.toList ∉ wordsM) : Pm.chain e k m s D = D := by
 have hn : ∀ w, w ∈ wordsM → (Pm.now e s).f2.toList ≠ w := fun w hw e => h (e ▸ hw)
 unfold Pm.chain
 rw [if_neg (fun e => hn _ (by simp [wordsM]) (e.trans wlMessage))]
 rw [if_neg (fun e => hn _ (by simp [wordsM]) (e.trans wlEnum))]
 rw [if_neg (fun e => hn _ (by simp [wordsM]) (e.trans wlOneof))]
 rw [if_neg (fun e => hn _ (by simp [wordsM]) (e.trans wlReserved))]
 rw [if_neg (fun e => e.elim (fun e => hn _ (by simp [wordsM]) (e.trans wlOptional)) (fun e => hn _ (by simp [wordsM]) (e.trans wlRepeated)))]
 rw [if_neg ?_]
 unfold Pm.refusedM
 rw [wlOption, wlExtend, wlExtensions, wlGroup, wlRequired]
 simp only [Bool.or_eq_true, beq_iff_eq]
 rintro ((((h | h) | h) | h) | h)
 all_goals exact hn _ (by simp [wordsM]) h
theorem startedM_no (b gm : Nat) (X : PFix) (s : PS) (pin : Value) (hin : (Pm.now X.e s).f2.toList ∉ wordsM) (W : World) (h : PAt b X W s) (hT : TabM b gm X W) :
  Calls Tryd.prog 87 #[.pointer (some ⟨b, 0, none⟩), .slice (some ⟨gm, 0, none⟩) 11 11, pin] W (fun e w' => e = .returned (.bool false) ∧ PAt b X w' s ∧ Ch (· = b) W w') := by
 have hn : ∀ w, w ∈ wordsM → (Pm.now X.e s).f2.toList ≠ w := fun w hw e => hin (e ▸ hw)
 refine startedM_calls b gm X s pin _ W h hT.2.2 hT.2.1 (fun _ w' hP hC => ⟨rfl, hP, hC⟩) ?_ ?_ ?_ ?_ ?_ ?_ ?_
 all_goals first
  | (intro hw; exact absurd hw (hn _ (by simp [wordsM])))
  | (rintro (hw | hw | hw | hw | hw) <;> exact absurd hw (hn _ (by simp [wordsM])))
end Go.Proofs.YtgkodenllfpajaaDoor.A
end
