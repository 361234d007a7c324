/- Lemmas and walks for the claim; no condition beyond what each states. -/
import Derived.Test.YtgkodenllfpajaaDoorB6
section
namespace Go.Proofs.YtgkodenllfpajaaDoor.A
open Go.RowKit Go.Proofs.YtgkodenllfpajaaDoorW.PrintWords Go.Proofs.YtgkodenllfpajaaDoorW.PrintLast Go.Proofs.YtgkodenllfpajaaDoorW.PrintMore
set_option linter.unusedVariables false
set_option linter.unusedSimpArgs false
theorem tok_second {W : World} {A : Option Addr} {l : List PTok} (h : Kd.C k42 W A l.length l) (hl : 1 < l.length) : ∃ ad, A = some ad ∧ (W.cell? ⟨ad.block, ad.off + 3, none⟩ = some (.int .i64 (l.getD 1 ⟨0, 0, ⟨#[]⟩⟩).f0)) ∧ (W.cell? ⟨ad.block, ad.off + 3 + 2, none⟩ = some (.string (l.getD 1 ⟨0, 0, ⟨#[]⟩⟩).f2)) := by
 obtain ⟨ad, e0, a0, a1, a2⟩ := at_T42 h 1 (by omega) (by omega)
 have hr : rd_T42 l 1 = l.getD 1 ⟨0, 0, ⟨#[]⟩⟩ := by
  show l.getD 1 _ = l.getD 1 _
  simp [List.getD_eq_getElem?_getD, List.getElem?_eq_getElem hl]
 rw [hr] at a0 a2
 exact ⟨ad, e0, by simpa [Addr.add] using a0, by simpa [Addr.add] using a2⟩
theorem or4 {p a b c d : Prop} (h : a ∨ b ∨ c ∨ d) (ha : a → p) (hb : b → p) (hc : c → p) (hd : d → p) : p := h.elim ha (fun h => h.elim hb (fun h => h.elim hc hd))
set_option maxHeartbeats 8000000 in
set_option maxRecDepth 100000 in
theorem member_calls (k : Nat) (hmsg : MsgOK k) : MemOK (k + 1) := by
 intro base b bm gt gm X m s r W hr h hM hE hT hgt hgm
 have HMsg := Aside0.mk hmsg
 have HP := Aside0.mk h
 have HM := Aside0.mk hM
 have HC := Aside0.mk (Ch.refl (· = b) W)
 have HE := Aside0.mk hE
 have HT := Aside0.mk hT
 have HG := Aside0.mk True.intro
 simp only [Pm.member] at hr
 have HR := Aside0.mk hr
 clear h hM hE hT hr hmsg hgt hgm
 go_enter Tryd.func70, Tryd.ntmps70
 go_wp2_with fail
 refine (now_calls b X s _ HP.out.fr).mono ?_; rintro e w1 ⟨rfl, hb⟩; have n0_ := Aside0.mk (PAt.below HP.out.fr hb); have n1_ := Aside0.mk (Ch.then_below HC.out.fr hb); clear HP HC hb; have HP := n0_; have HC := n1_; clear n0_ n1_
 clear HG
 have HG := Aside0.mk (show b < w1.heap.size ∧ X.B ≤ b ∧ W.heap.size ≤ w1.heap.size from ⟨HP.out.lt, HP.out.ge, HC.out.size⟩)
 have HX := Aside0.mk (blk_new w1 (.cells #[.int .i64 (Pm.now X.e s).f0, .int .i64 (Pm.now X.e s).f1, .string (Pm.now X.e s).f2] 42))
 obtain ⟨wt, hwt⟩ : ∃ n : Nat, n = w1.heap.size := ⟨_, rfl⟩
 go_wp2_with fail
 cases g : Pm.is X.e 4 Pm.wSemi s with
 | true =>
  obtain rfl := Option.some.inj (Pm.ite_t HR.out g)
  have HGr := Aside0.mk g
  clear g HR
  refine (is_calls b X 4 Pm.wSemi s _ HP.out.fr).mono ?_; rintro e w1 ⟨rfl, hb⟩; rw [HGr.out]; have n0_ := Aside0.mk (PAt.below HP.out.fr hb); have n1_ := Aside0.mk (Ch.then_below HC.out.fr hb); have nx_ := Aside0.mk ((hb.block _ (pcell (HX.out)).2.2).trans (HX.out)); clear HP HC hb HX; have HP := n0_; have HC := n1_; have HX := nx_; clear n0_ n1_ nx_
  go_wp2_with fail
  refine (next_calls b X s _ HP.out.fr).mono ?_; rintro e w1 ⟨rfl, hP, hC⟩; have n0_ := Aside0.mk hP; have n1_ := Aside0.mk (Ch.trans HC.out.fr hC); clear HP HC hP hC; have HP := n0_; have HC := n1_; clear n0_ n1_
  go_wp2
  go_end0
  exact ⟨rfl, HP.out, MInv.b HM.out HC.out, Ch.sm HC.out⟩
 | false =>
  have hr3 := HR.out; rw [if_neg (by rw [g]; exact Bool.false_ne_true)] at hr3; clear HR; have HR := Aside0.mk hr3; clear hr3
  have HGr := Aside0.mk g
  clear g
  refine (is_calls b X 4 Pm.wSemi s _ HP.out.fr).mono ?_; rintro e w1 ⟨rfl, hb⟩; rw [HGr.out]; have n0_ := Aside0.mk (PAt.below HP.out.fr hb); have n1_ := Aside0.mk (Ch.then_below HC.out.fr hb); have nx_ := Aside0.mk ((hb.block _ (pcell (HX.out)).2.2).trans (HX.out)); clear HP HC hb HX; have HP := n0_; have HC := n1_; have HX := nx_; clear n0_ n1_ nx_
  clear HGr
  go_wp2_with fail
  by_cases hmap : Pm.is X.e 1 Pm.wMap s = true ∧ 1 < s.left.length ∧ (s.left.getD 1 ⟨0, 0, ⟨#[]⟩⟩).f0 = 4 ∧ (s.left.getD 1 ⟨0, 0, ⟨#[]⟩⟩).f2.toList = Pm.wLt.toList
  ·have hr3 := HR.out
   rw [if_pos hmap] at hr3
   obtain ⟨u, hu, hl, rfl⟩ := bo_addF hr3
   have HU := Aside0.mk hu
   have HL := Aside0.mk hl
   have HGr := Aside0.mk hmap.1
   have hm1 := hmap.2.1
   have hk1 : ((s.left.getD 1 ⟨0, 0, ⟨#[]⟩⟩).f0 == 4) = true := beq_iff_eq.mpr hmap.2.2.1
   have hk2 : ((s.left.getD 1 ⟨0, 0, ⟨#[]⟩⟩).f2.toList == ([60] : List UInt8)) = true := beq_iff_eq.mpr (hmap.2.2.2.trans (by simp [Pm.wLt, go_sem]))
   clear HR hr3 hu hl hmap
   refine (is_calls b X 1 Pm.wMap s _ HP.out.fr).mono ?_; rintro e w1 ⟨rfl, hb⟩; rw [HGr.out]; have n0_ := Aside0.mk (PAt.below HP.out.fr hb); have n1_ := Aside0.mk (Ch.then_below HC.out.fr hb); have nx_ := Aside0.mk ((hb.block _ (pcell (HX.out)).2.2).trans (HX.out)); clear HP HC hb HX; have HP := n0_; have HC := n1_; have HX := nx_; clear n0_ n1_ nx_
   obtain ⟨Ap, cp, h1, _, h3, _⟩ := HP.out
   obtain ⟨c0, _, _, _, c10, _, fr, hlt⟩ := pcells_at h1
   rw [HT.out.1] at c10
   have f10 := fr 10
   clear h1 fr
   obtain ⟨ad, rfl, a0, a2⟩ := tok_second (Kd.F_now h3) hm1
   have hm2 : ((1 : Int) < (s.left.length : Int)) := by omega
   have hm3 : decide ((1 : Int) < (s.left.length : Int)) = true := decide_eq_true hm2
   obtain ⟨t2, ht2⟩ : ∃ t : PTok, t = s.left.getD 1 ⟨0, 0, ⟨#[]⟩⟩ := ⟨_, rfl⟩
   rw [← ht2] at a0 a2 hk1 hk2
   clear h3 hm1 ht2
   go_wp2_with fail
   refine (table_calls base b bm X k m s u HU.out HL.out _ HP.out.fr (MInv.b HM.out HC.out.fr)).mono ?_
   rintro e w2 hU
   rcases u with y | ⟨f', s'⟩
   ·obtain ⟨rfl, hC⟩ := hU
    exact ⟨rfl, rfl, (Ch.sm HC.out.fr).trans hC⟩
   ·obtain ⟨rfl, hP, hM, hC⟩ := hU
    have n0_ := Aside0.mk hP
    have n1_ := Aside0.mk ((Ch.sm HC.out.fr : Ch (SM b base) W _).trans hC)
    have n2_ := Aside0.mk hM
    clear hP hM hC HP HC HM
    go_wp2
    go_end0
    exact ⟨rfl, n0_.out, n2_.out, n1_.out⟩
  ·refine or4 (show Pm.is X.e 1 Pm.wMap s = false ∨ (Pm.is X.e 1 Pm.wMap s = true ∧ ¬ 1 < s.left.length) ∨ (Pm.is X.e 1 Pm.wMap s = true ∧ 1 < s.left.length ∧ (s.left.getD 1 ⟨0, 0, ⟨#[]⟩⟩).f0 ≠ 4) ∨ (Pm.is X.e 1 Pm.wMap s = true ∧ 1 < s.left.length ∧ (s.left.getD 1 ⟨0, 0, ⟨#[]⟩⟩).f0 = 4 ∧ (s.left.getD 1 ⟨0, 0, ⟨#[]⟩⟩).f2.toList ≠ Pm.wLt.toList) from ?pp) ?pa ?pb ?pc ?pd
   case pp =>
    cases h0 : Pm.is X.e 1 Pm.wMap s with
    | false => exact Or.inl rfl
    | true =>
     rw [h0] at hmap
     refine Or.inr ?_
     by_cases h1 : 1 < s.left.length
     ·refine Or.inr ?_
      by_cases h2 : (s.left.getD 1 ⟨0, 0, ⟨#[]⟩⟩).f0 = 4
      ·exact Or.inr ⟨rfl, h1, h2, fun h3 => hmap ⟨rfl, h1, h2, h3⟩⟩
      ·exact Or.inl ⟨rfl, h1, h2⟩
     ·exact Or.inl ⟨rfl, h1⟩
   all_goals have hr3 := HR.out
   all_goals rw [if_neg hmap] at hr3
   all_goals clear HR
   all_goals have HR := Aside0.mk hr3
   all_goals clear hr3 hmap
   case' pa =>
    intro h0
    have HGr := Aside0.mk h0
    clear h0
    refine (is_calls b X 1 Pm.wMap s _ HP.out.fr).mono ?_; rintro e w1 ⟨rfl, hb⟩; rw [HGr.out]; have n0_ := Aside0.mk (PAt.below HP.out.fr hb); have n1_ := Aside0.mk (Ch.then_below HC.out.fr hb); have nx_ := Aside0.mk ((hb.block _ (pcell (HX.out)).2.2).trans (HX.out)); clear HP HC hb HX; have HP := n0_; have HC := n1_; have HX := nx_; clear n0_ n1_ nx_
    obtain ⟨Ap, cp, h1, _, h3, _⟩ := HP.out
    obtain ⟨c0, _, _, _, c10, _, fr, hlt⟩ := pcells_at h1
    rw [HT.out.1] at c10
    have f10 := fr 10
    clear h1 fr
    clear h3
   case' pb =>
    rintro ⟨h0, hm1⟩
    have HGr := Aside0.mk h0
    clear h0
    refine (is_calls b X 1 Pm.wMap s _ HP.out.fr).mono ?_; rintro e w1 ⟨rfl, hb⟩; rw [HGr.out]; have n0_ := Aside0.mk (PAt.below HP.out.fr hb); have n1_ := Aside0.mk (Ch.then_below HC.out.fr hb); have nx_ := Aside0.mk ((hb.block _ (pcell (HX.out)).2.2).trans (HX.out)); clear HP HC hb HX; have HP := n0_; have HC := n1_; have HX := nx_; clear n0_ n1_ nx_
    obtain ⟨Ap, cp, h1, _, h3, _⟩ := HP.out
    obtain ⟨c0, _, _, _, c10, _, fr, hlt⟩ := pcells_at h1
    rw [HT.out.1] at c10
    have f10 := fr 10
    clear h1 fr
    have hm3 : decide ((1 : Int) < (s.left.length : Int)) = false := decide_eq_false (by omega)
    clear h3 hm1
   case' pc =>
    rintro ⟨h0, hm1, hne⟩
    have HGr := Aside0.mk h0
    clear h0
    refine (is_calls b X 1 Pm.wMap s _ HP.out.fr).mono ?_; rintro e w1 ⟨rfl, hb⟩; rw [HGr.out]; have n0_ := Aside0.mk (PAt.below HP.out.fr hb); have n1_ := Aside0.mk (Ch.then_below HC.out.fr hb); have nx_ := Aside0.mk ((hb.block _ (pcell (HX.out)).2.2).trans (HX.out)); clear HP HC hb HX; have HP := n0_; have HC := n1_; have HX := nx_; clear n0_ n1_ nx_
    obtain ⟨Ap, cp, h1, _, h3, _⟩ := HP.out
    obtain ⟨c0, _, _, _, c10, _, fr, hlt⟩ := pcells_at h1
    rw [HT.out.1] at c10
    have f10 := fr 10
    clear h1 fr
    obtain ⟨ad, rfl, a0, a2⟩ := tok_second (Kd.F_now h3) hm1
    have hm2 : ((1 : Int) < (s.left.length : Int)) := by omega
    have hm3 : decide ((1 : Int) < (s.left.length : Int)) = true := decide_eq_true hm2
    have hk1 : ((s.left.getD 1 ⟨0, 0, ⟨#[]⟩⟩).f0 == 4) = false := beq_eq_false_iff_ne.mpr hne
    obtain ⟨t2, ht2⟩ : ∃ t : PTok, t = s.left.getD 1 ⟨0, 0, ⟨#[]⟩⟩ := ⟨_, rfl⟩
    rw [← ht2] at a0 a2 hk1
    clear h3 hm1 hne ht2
   case' pd =>
    rintro ⟨h0, hm1, hk, hne⟩
    have HGr := Aside0.mk h0
    clear h0
    refine (is_calls b X 1 Pm.wMap s _ HP.out.fr).mono ?_; rintro e w1 ⟨rfl, hb⟩; rw [HGr.out]; have n0_ := Aside0.mk (PAt.below HP.out.fr hb); have n1_ := Aside0.mk (Ch.then_below HC.out.fr hb); have nx_ := Aside0.mk ((hb.block _ (pcell (HX.out)).2.2).trans (HX.out)); clear HP HC hb HX; have HP := n0_; have HC := n1_; have HX := nx_; clear n0_ n1_ nx_
    obtain ⟨Ap, cp, h1, _, h3, _⟩ := HP.out
    obtain ⟨c0, _, _, _, c10, _, fr, hlt⟩ := pcells_at h1
    rw [HT.out.1] at c10
    have f10 := fr 10
    clear h1 fr
    obtain ⟨ad, rfl, a0, a2⟩ := tok_second (Kd.F_now h3) hm1
    have hm2 : ((1 : Int) < (s.left.length : Int)) := by omega
    have hm3 : decide ((1 : Int) < (s.left.length : Int)) = true := decide_eq_true hm2
    have hk1 : ((s.left.getD 1 ⟨0, 0, ⟨#[]⟩⟩).f0 == 4) = true := beq_iff_eq.mpr hk
    have hk2 : ((s.left.getD 1 ⟨0, 0, ⟨#[]⟩⟩).f2.toList == ([60] : List UInt8)) = false := beq_eq_false_iff_ne.mpr (fun e => hne (e.trans (by simp [Pm.wLt, go_sem])))
    obtain ⟨t2, ht2⟩ : ∃ t : PTok, t = s.left.getD 1 ⟨0, 0, ⟨#[]⟩⟩ := ⟨_, rfl⟩
    rw [← ht2] at a0 a2 hk1 hk2
    clear h3 hm1 hne hk ht2
   all_goals
    by_cases kd : (Pm.now X.e s).f0 = 1
    ·have hr3 := HR.out
     have hch : Pm.chain X.e k m s (Pm.bo (some (Pm.unl X.e ((Pm.now X.e s).f0 == 1 || Pm.is X.e 4 Pm.dot s) s)) fun _ s => Pm.bo (Pm.field k X.e { Pm.zfield with f0 := 1 } true s) fun f s => if m.f1.length < 1099511627776 then some (.ok ({ m with f1 := m.f1 ++ [f] }, s)) else none) = some r := by
      unfold Pm.chain
      simp only [kd, true_and] at hr3 ⊢
      exact hr3
     clear hr3 HR
     have kb : ((Pm.now X.e s).f0 == 1) = true := beq_iff_eq.mpr kd
     have HR := Aside0.mk hch
     have HTt := Aside0.mk (HT.out.ch HC.out HT.out.2.1)
     have HTe := Aside0.mk (HE.out.ch HC.out HE.out.2.1)
     clear hch
     clear kd
     obtain ⟨bx1, bxf, bx3⟩ := pcell HX.out; have x0 := bx1 0 _ rfl; have f0 := bxf 0; have x1 := bx1 1 _ rfl; have f1 := bxf 1; have x2 := bx1 2 _ rfl; have f2 := bxf 2; clear bx1 bxf
     by_cases hin : (Pm.now X.e s).f2.toList ∈ wordsM
     ·have HIn := Aside0.mk hin
      clear hin
      go_wp2_with fail
      refine (startedM_yes k HMsg.out base b bm gt gm X m s r _ HR.out HIn.out _ HP.out.fr (MInv.b HM.out HC.out.fr) HTe.out HTt.out).mono ?_
      rintro e w2 hU
      rcases r with y | ⟨f', s'⟩
      ·obtain ⟨rfl, hC⟩ := hU
       exact ⟨rfl, rfl, (Ch.sm HC.out.fr).trans hC⟩
      ·obtain ⟨rfl, hP, hM, hC⟩ := hU
       have n0_ := Aside0.mk hP
       have n1_ := Aside0.mk ((Ch.sm HC.out.fr : Ch (SM b base) W _).trans hC)
       have n2_ := Aside0.mk hM
       clear hP hM hC
       go_wp2
       go_end0
       exact ⟨rfl, n0_.out, n2_.out, n1_.out⟩
     ·have HIn := Aside0.mk hin
      clear hin
      have hr3 := HR.out
      rw [Pm.chain_no HIn.out, kb, Bool.true_or] at hr3
      clear HR
      have HR := Aside0.mk hr3
      clear hr3
      go_wp2_with fail
      refine (startedM_no b gm X s _ HIn.out _ HP.out.fr HTt.out).mono ?_
      rintro e w2 ⟨rfl, hP, hC⟩
      have n0_ := Aside0.mk hP
      have n1_ := Aside0.mk (Ch.trans HC.out.fr hC)
      have nx_ := Aside0.mk ((hC.block _ (pcell HX.out).2.2 (fun e_ => Nat.ne_of_gt HG.out.1 e_)).trans HX.out)
      clear hP hC HP HC HX c10 f10 hlt x0 x1 x2 f0 f1 f2 bx3
      have HP := n0_
      have HC := n1_
      have HX := nx_
      clear n0_ n1_ nx_ HTt HTe HIn
      obtain ⟨bx1, bxf, bx3⟩ := pcell HX.out; have x0 := bx1 0 _ rfl; have f0 := bxf 0; have x1 := bx1 1 _ rfl; have f1 := bxf 1; have x2 := bx1 2 _ rfl; have f2 := bxf 2; clear bx1 bxf
      go_wp2_with fail
      rcases bo_cases HR.out with ⟨y, hy, hr2⟩ | ⟨⟨⟩, s1, hy, hr2⟩; (clear HR; subst hr2; refine (unless_calls b X true s _ HP.out.fr).mono ?_; rintro e w1 hU; rw [(Option.some.inj hy : Pm.unl X.e true s = _)] at hU; obtain ⟨rfl, hC⟩ := hU; exact ⟨rfl, rfl, Ch.sm (Ch.trans HC.out.fr hC)⟩); ((try dsimp only at hr2); clear HR; have HR := Aside0.mk hr2; clear hr2; refine (unless_calls b X true s _ HP.out.fr).mono ?_; rintro e w1 hU; rw [(Option.some.inj hy : Pm.unl X.e true s = _)] at hU; obtain ⟨rfl, hP, hC⟩ := hU; have n0_ := Aside0.mk hP; have n1_ := Aside0.mk (Ch.trans HC.out.fr hC); clear hP hC hy; (try clear HP); clear HC; have HP := n0_; have HC := n1_; clear n0_ n1_)
      clear x0 x1 x2 f0 f1 f2 bx3
      obtain ⟨u, hu, hl, rfl⟩ := bo_addF HR.out
      have HU := Aside0.mk hu
      have HL := Aside0.mk hl
      clear HR hu hl
      go_wp2_with fail
      refine (field_calls base b bm X k ({ Pm.zfield with f0 := 1 } : PField) true m s1 u HU.out HL.out _ HP.out.fr (MInv.b HM.out HC.out.fr)).mono ?_
      rintro e w2 hU
      rcases u with y | ⟨f', s'⟩
      ·obtain ⟨rfl, hC⟩ := hU
       exact ⟨rfl, rfl, (Ch.sm HC.out.fr).trans hC⟩
      ·obtain ⟨rfl, hP, hM, hC⟩ := hU
       have n0_ := Aside0.mk hP
       have n1_ := Aside0.mk ((Ch.sm HC.out.fr : Ch (SM b base) W _).trans hC)
       have n2_ := Aside0.mk hM
       clear hP hM hC HP HC HM
       go_wp2
       go_end0
       exact ⟨rfl, n0_.out, n2_.out, n1_.out⟩
    ·have hr3 := HR.out
     have kb : ((Pm.now X.e s).f0 == 1) = false := beq_eq_false_iff_ne.mpr kd
     rw [if_neg (fun h => kd h.1), if_neg (fun h => kd h.1), if_neg (fun h => kd h.1), if_neg (fun h => kd h.1), if_neg (fun h => kd h.1), if_neg (fun h => kd h.1), kb, Bool.false_or] at hr3
     clear HR
     have HR := Aside0.mk hr3
     clear hr3 kd
     obtain ⟨bx1, bxf, bx3⟩ := pcell HX.out; have x0 := bx1 0 _ rfl; have f0 := bxf 0; have x1 := bx1 1 _ rfl; have f1 := bxf 1; have x2 := bx1 2 _ rfl; have f2 := bxf 2; clear bx1 bxf
     go_wp2_with fail
     refine (is_calls b X 4 Pm.dot s _ HP.out.fr).mono ?_; rintro e w1 ⟨rfl, hb⟩; have n0_ := Aside0.mk (PAt.below HP.out.fr hb); have n1_ := Aside0.mk (Ch.then_below HC.out.fr hb); have nx_ := Aside0.mk ((hb.block _ (pcell (HX.out)).2.2).trans (HX.out)); clear HP HC hb; have HP := n0_; have HC := n1_; clear n0_ n1_; (try clear HX); have HX := nx_; clear nx_
     go_wp2_with fail
     rcases bo_cases HR.out with ⟨y, hy, hr2⟩ | ⟨⟨⟩, s1, hy, hr2⟩; (clear HR; subst hr2; refine (unless_calls b X (Pm.is X.e 4 Pm.dot s) s _ HP.out.fr).mono ?_; rintro e w1 hU; rw [(Option.some.inj hy : Pm.unl X.e (Pm.is X.e 4 Pm.dot s) s = _)] at hU; obtain ⟨rfl, hC⟩ := hU; exact ⟨rfl, rfl, Ch.sm (Ch.trans HC.out.fr hC)⟩); ((try dsimp only at hr2); clear HR; have HR := Aside0.mk hr2; clear hr2; refine (unless_calls b X (Pm.is X.e 4 Pm.dot s) s _ HP.out.fr).mono ?_; rintro e w1 hU; rw [(Option.some.inj hy : Pm.unl X.e (Pm.is X.e 4 Pm.dot s) s = _)] at hU; obtain ⟨rfl, hP, hC⟩ := hU; have n0_ := Aside0.mk hP; have n1_ := Aside0.mk (Ch.trans HC.out.fr hC); clear hP hC hy; (try clear HP); clear HC; have HP := n0_; have HC := n1_; clear n0_ n1_)
     clear x0 x1 x2 f0 f1 f2 bx3
     obtain ⟨u, hu, hl, rfl⟩ := bo_addF HR.out
     have HU := Aside0.mk hu
     have HL := Aside0.mk hl
     clear HR hu hl
     go_wp2_with fail
     refine (field_calls base b bm X k ({ Pm.zfield with f0 := 1 } : PField) true m s1 u HU.out HL.out _ HP.out.fr (MInv.b HM.out HC.out.fr)).mono ?_
     rintro e w2 hU
     rcases u with y | ⟨f', s'⟩
     ·obtain ⟨rfl, hC⟩ := hU
      exact ⟨rfl, rfl, (Ch.sm HC.out.fr).trans hC⟩
     ·obtain ⟨rfl, hP, hM, hC⟩ := hU
      have n0_ := Aside0.mk hP
      have n1_ := Aside0.mk ((Ch.sm HC.out.fr : Ch (SM b base) W _).trans hC)
      have n2_ := Aside0.mk hM
      clear hP hM hC HP HC HM
      go_wp2
      go_end0
      exact ⟨rfl, n0_.out, n2_.out, n1_.out⟩
theorem memOK0 : MemOK 0 := fun base b bm gt gm X m s r W hr => by unfold Pm.member at hr; cases hr
theorem msgOK (k : Nat) : MsgOK k := by
 induction k using Nat.strongRecOn with
 | ind k ih =>
  refine message_calls k (fun j hj => ?_)
  cases j with
  | zero => exact memOK0
  | succ j => exact member_calls j (ih j (by omega))
theorem PAt.cP {b : Nat} {X : PFix} {W : World} {s : PS} (h : PAt b X W s) : W.cell? ⟨b, 2, none⟩ = some X.p0 ∧ W.cell? ⟨b, 3, none⟩ = some X.p1 ∧ W.cell? ⟨b, 4, none⟩ = some X.p2 ∧ W.cell? ⟨b, 5, none⟩ = some X.p3 ∧ W.cell? ⟨b, 6, none⟩ = some (.bool X.pk) ∧ W.cell? ⟨b, 9, none⟩ = some X.t0 ∧ (∀ j, W.frozen? ⟨b, j, none⟩ = false) ∧ b < W.heap.size := by
 obtain ⟨A, c, h1, _⟩ := h
 have g := pcell h1
 exact ⟨g.1 2 _ rfl, g.1 3 _ rfl, g.1 4 _ rfl, g.1 5 _ rfl, g.1 6 _ rfl, g.1 9 _ rfl, g.2.1, g.2.2⟩
theorem PAt.setX {b : Nat} {X : PFix} {W : World} {s : PS} (h : PAt b X W s) (j : Nat) (v : Value) (X' : PFix) (hX : ∀ A n c d ne, (pcells A n c X d ne).setIfInBounds j v = pcells A n c X' d ne) (hB : X'.B = X.B) : PAt b X' (W.setCell ⟨b, j, none⟩ v) s := by
 obtain ⟨A, c, h1, h2, h3, h4, h5, h6⟩ := h
 refine ⟨A, c, by rw [← hX]; exact pset h1 j v, h2, ?_, by rw [hB]; exact h4, h5, ⟨h6.1.ch (Ch.set (S := fun k => k = b) (Ch.refl _ W) (fun _ => rfl) _) (fun e => by have := h6.2; omega) (fun e => by have := h6.2; omega), by rw [hB]; exact h6.2⟩⟩
 rw [hB]
 exact Kd.F_far h3 (fun k hk => Nat.ne_of_lt (Nat.lt_of_lt_of_le hk h4)) _
def XLike (X X' : PFix) : Prop := X'.B = X.B ∧ X'.e = X.e ∧ X'.t0 = X.t0 ∧ X'.t1 = X.t1 ∧ X'.t2 = X.t2
def FInv (base b : Nat) (W : World) (X : PFix) (f : PFile) : Prop :=
 (b < base ∧ base ≤ W.heap.size) ∧ X.p0 = .string f.f0 ∧ Kd.string.R 9 W base (okL b b [X.p2, X.p3]) X.p1 f.f1 ∧ k48.R 48 W base (okL b b [X.p1, X.p3]) X.p2 f.f2 ∧ k77.R 77 W base (okL b b [X.p1, X.p2]) X.p3 f.f3
theorem FInv.ch {base b : Nat} {W W1 : World} {X : PFix} {f : PFile} {S : Nat → Prop} (h : FInv base b W X f) (hc : Ch S W W1) (hS : ∀ k, base ≤ k → k ≠ b → k < W.heap.size → ¬ S k) : FInv base b W1 X f :=
 ⟨⟨h.1.1, Nat.le_trans h.1.2 hc.size⟩, h.2.1, row_ch h.2.2.1 hc (fun k h1 h2 _ h3 => hS k h1 h2 h3), row_ch h.2.2.2.1 hc (fun k h1 h2 _ h3 => hS k h1 h2 h3), row_ch h.2.2.2.2 hc (fun k h1 h2 _ h3 => hS k h1 h2 h3)⟩
theorem FInv.b {base b : Nat} {W W1 : World} {X : PFix} {f : PFile} (h : FInv base b W X f) (hc : Ch (· = b) W W1) : FInv base b W1 X f := h.ch hc (fun _ _ h _ => h)
def PostF (base b : Nat) (X : PFix) (W : World) (ret : Value) (r : PR (Bool × PFile)) (e : Ending) (w' : World) : Prop :=
 match r with
 | .ok ((pk, f), s) => e = .returned ret ∧ ∃ X', XLike X X' ∧ X'.pk = pk ∧ PAt b X' w' s ∧ FInv base b w' X' f ∧ Ch (SM b base) W w'
 | .error x => e = thrown x.1 x.2 ∧ Ch (SM b base) W w'
theorem FInv.appG1 {base b : Nat} {W : World} {X : PFix} {f : PFile} (h : FInv base b W X f) : ∃ L, Kd.string.R 9 W base (okL b b L) X.p1 f.f1 ∧ (∀ k, W.heap.size ≤ k → okL b b L k ∧ some k ≠ X.p1.ownBlock) ∧ base ≤ W.heap.size ∧ (∀ k, X.p1.ownBlock = some k → k < W.heap.size ∧ base ≤ k) ∧
  ∀ w9 v9 l9, Kd.string.R 9 w9 base (okL b b L) v9 l9 → Ch (fun k => k = b ∨ some k = X.p1.ownBlock) W w9 → (v9.ownBlock = X.p1.ownBlock ∨ ∃ g, v9.ownBlock = some g ∧ W.heap.size ≤ g) →
   FInv base b (w9.setCell ⟨b, 3, none⟩ v9) { X with p1 := v9 } { f with f1 := l9 } ∧ Ch (SM b base) W (w9.setCell ⟨b, 3, none⟩ v9) := by
 obtain ⟨hb, h0, r1, r2, r3⟩ := h
 refine ⟨[X.p2, X.p3], r1, fun k hk => ⟨row_fresh (by omega) (by omega) ?_ k hk, fun e => by have := (row_lt r1 k e.symm).1; omega⟩, hb.2, row_lt r1, fun w9 v9 l9 r9 hg hat => ⟨?_, ?_⟩⟩
 ·intro v hv k hk
  simp only [List.mem_cons, List.not_mem_nil, or_false] at hv
  rcases hv with rfl | rfl
  ·exact (row_lt r2 k hk).1
  ·exact (row_lt r3 k hk).1
 ·exact ⟨⟨hb.1, Nat.le_trans hb.2 (by have := hg.size; simpa [World.setCell] using this)⟩, h0, Kd.R_far r9 (fun k hk => hk.1) _, Kd.R_far (row_oth2 (L' := [v9, X.p3]) r2 (by simp) hg hat (by simp)) (fun k hk => hk.1) _, Kd.R_far (row_oth2 (L' := [v9, X.p2]) r3 (by simp) hg hat (by simp)) (fun k hk => hk.1) _⟩
 ·exact Ch.set (hg.mono (fun k _ h => h.elim .inl (fun e => .inr (row_lt r1 k e.symm).2))) (fun _ => .inl rfl) _
theorem FInv.appG2 {base b : Nat} {W : World} {X : PFix} {f : PFile} (h : FInv base b W X f) : ∃ L, k48.R 48 W base (okL b b L) X.p2 f.f2 ∧ (∀ k, W.heap.size ≤ k → okL b b L k ∧ some k ≠ X.p2.ownBlock) ∧ base ≤ W.heap.size ∧ (∀ k, X.p2.ownBlock = some k → k < W.heap.size ∧ base ≤ k) ∧
  ∀ w9 v9 l9, k48.R 48 w9 base (okL b b L) v9 l9 → Ch (fun k => k = b ∨ some k = X.p2.ownBlock) W w9 → (v9.ownBlock = X.p2.ownBlock ∨ ∃ g, v9.ownBlock = some g ∧ W.heap.size ≤ g) →
   FInv base b (w9.setCell ⟨b, 4, none⟩ v9) { X with p2 := v9 } { f with f2 := l9 } ∧ Ch (SM b base) W (w9.setCell ⟨b, 4, none⟩ v9) := by
 obtain ⟨hb, h0, r1, r2, r3⟩ := h
 refine ⟨[X.p1, X.p3], r2, fun k hk => ⟨row_fresh (by omega) (by omega) ?_ k hk, fun e => by have := (row_lt r2 k e.symm).1; omega⟩, hb.2, row_lt r2, fun w9 v9 l9 r9 hg hat => ⟨?_, ?_⟩⟩
 ·intro v hv k hk
  simp only [List.mem_cons, List.not_mem_nil, or_false] at hv
  rcases hv with rfl | rfl
  ·exact (row_lt r1 k hk).1
  ·exact (row_lt r3 k hk).1
 ·exact ⟨⟨hb.1, Nat.le_trans hb.2 (by have := hg.size; simpa [World.setCell] using this)⟩, h0, Kd.R_far (row_oth2 (L' := [v9, X.p3]) r1 (by simp) hg hat (by simp)) (fun k hk => hk.1) _, Kd.R_far r9 (fun k hk => hk.1) _, Kd.R_far (row_oth2 (L' := [X.p1, v9]) r3 (by simp) hg hat (by simp)) (fun k hk => hk.1) _⟩
 ·exact Ch.set (hg.mono (fun k _ h => h.elim .inl (fun e => .inr (row_lt r2 k e.symm).2))) (fun _ => .inl rfl) _
theorem FInv.appG3 {base b : Nat} {W : World} {X : PFix} {f : PFile} (h : FInv base b W X f) : ∃ L, k77.R 77 W base (okL b b L) X.p3 f.f3 ∧ (∀ k, W.heap.size ≤ k → okL b b L k ∧ some k ≠ X.p3.ownBlock) ∧ base ≤ W.heap.size ∧ (∀ k, X.p3.ownBlock = some k → k < W.heap.size ∧ base ≤ k) ∧
  ∀ w9 v9 l9, k77.R 77 w9 base (okL b b L) v9 l9 → Ch (fun k => k = b ∨ some k = X.p3.ownBlock) W w9 → (v9.ownBlock = X.p3.ownBlock ∨ ∃ g, v9.ownBlock = some g ∧ W.heap.size ≤ g) →
   FInv base b (w9.setCell ⟨b, 5, none⟩ v9) { X with p3 := v9 } { f with f3 := l9 } ∧ Ch (SM b base) W (w9.setCell ⟨b, 5, none⟩ v9) := by
 obtain ⟨hb, h0, r1, r2, r3⟩ := h
 refine ⟨[X.p1, X.p2], r3, fun k hk => ⟨row_fresh (by omega) (by omega) ?_ k hk, fun e => by have := (row_lt r3 k e.symm).1; omega⟩, hb.2, row_lt r3, fun w9 v9 l9 r9 hg hat => ⟨?_, ?_⟩⟩
 ·intro v hv k hk
  simp only [List.mem_cons, List.not_mem_nil, or_false] at hv
  rcases hv with rfl | rfl
  ·exact (row_lt r1 k hk).1
  ·exact (row_lt r2 k hk).1
 ·exact ⟨⟨hb.1, Nat.le_trans hb.2 (by have := hg.size; simpa [World.setCell] using this)⟩, h0, Kd.R_far (row_oth2 (L' := [X.p2, v9]) r1 (by simp) hg hat (by simp)) (fun k hk => hk.1) _, Kd.R_far (row_oth2 (L' := [X.p1, v9]) r2 (by simp) hg hat (by simp)) (fun k hk => hk.1) _, Kd.R_far r9 (fun k hk => hk.1) _⟩
 ·exact Ch.set (hg.mono (fun k _ h => h.elim .inl (fun e => .inr (row_lt r3 k e.symm).2))) (fun _ => .inl rfl) _
set_option maxHeartbeats 8000000 in
set_option maxRecDepth 100000 in
theorem tops1_calls (k : Nat) (base b gt gm : Nat) (X : PFix) (f : PFile) (s : PS) (r : PR (Bool × PFile)) (hr : (Pm.bo (Pm.message X.e k s) fun x s => if f.f2.length < 549755813888 then some (.ok ((X.pk, { f with f2 := f.f2 ++ [x] }), s)) else none) = some r) (W : World) (h : PAt b X W s) (hM : FInv base b W X f) (hE : TabE b gt X W) (hT : TabM b gm X W) :
  Calls Tryd.prog 41 #[.pointer (some ⟨b, 0, none⟩), .pointer (some ⟨b, 2, none⟩)] W (PostF base b X W (.tuple #[]) r) := by
 have HMsg := Aside0.mk (msgOK k)
 have HP := Aside0.mk h
 have HE := Aside0.mk hE
 have HT := Aside0.mk hT
 have HR := Aside0.mk hr
 obtain ⟨L, hr1, hf1, hbs1, hlt1, hn1⟩ := FInv.appG2 hM
 obtain ⟨A7, n7, c7, hv⟩ := R_slice3 hr1
 have hn7 : n7 = f.f2.length := by obtain ⟨_, _, e⟩ := Kd.R_slice hr1; rw [hv] at e; injection e
 subst hn7
 have hcp := h.cP
 have q0 : W.cell? ⟨b, 4, none⟩ = some (.slice A7 f.f2.length c7) := hcp.2.2.1.trans (congrArg some hv)
 have g0 : W.frozen? ⟨b, 4, none⟩ = false := hcp.2.2.2.2.2.2.1 4
 have l0 : b < W.heap.size := h.lt
 have HV := Aside0.mk hv
 rw [hv] at hr1 hf1 hlt1 hn1
 have HR1 := Aside0.mk hr1
 have HF1 := Aside0.mk hf1
 have HS1 := Aside0.mk hbs1
 have HT1 := Aside0.mk hlt1
 have HN1 := Aside0.mk hn1
 have HBb := Aside0.mk hM.1.1
 clear h hM hE hT hr hr1 hf1 hbs1 hlt1 hn1 hv hcp
 go_enter Tryd.func41, Tryd.ntmps41
 go_wp2
 go_region_law (first | (refine Kd.R_append_step k48 (w0 := w1) (W := w1) base rfl (.tmp 7) (.tmp 11) 26 48 (.agg #[(.string ⟨#[]⟩), (.slice none 0 0), (.slice none 0 0), (.slice none 0 0), (.slice none 0 0), (.slice none 0 0), (.slice none 0 0)]) 160 rfl Tryd.underlying26 info_msg rfl (by decide) (by decide) (.slice A7 f.f2.length c7) f.f2 zmsg [.string ⟨#[]⟩, .slice none 0 0, .slice none 0 0, .slice none 0 0, .slice none 0 0, .slice none 0 0, .slice none 0 0] (okL b b L) (fun k => False) (by simp [Act.eval, Act.put]) (by simp [Act.eval, Act.put]) (k48_mkM _ _ _ zmsg (Kd.R_nil _ _ _ _ _) (Kd.R_nil _ _ _ _ _) (Kd.R_nil _ _ _ _ _) (Kd.R_nil _ _ _ _ _) (Kd.R_nil _ _ _ _ _) (Kd.R_nil _ _ _ _ _)) (fun k hk => hk.elim) (fun k hk => (HF1.out k (Nat.le_trans HC.out.size hk)).1) HRw.out (Below.refl _ _) (Nat.le_trans HS1.out HC.out.size) (by have := HL.out; omega) ?_; intro v9 w9 ho hb hg hat; clear hb; obtain ⟨g9, c9, e9, hg9, hl9, hc9⟩ := Kd.R_form ho (by simp); have HO9 := Aside0.mk ho; subst e9; obtain ⟨u0, p0, f0⟩ := R_lastcell ho 0 (f.f2.length * 7) rfl (by show 0 < 7; decide); obtain ⟨u1, p1, f1⟩ := R_lastcell ho 1 (f.f2.length * 7 + 1) rfl (by show 1 < 7; decide); obtain ⟨u2, p2, f2⟩ := R_lastcell ho 2 (f.f2.length * 7 + 2) rfl (by show 2 < 7; decide); obtain ⟨u3, p3, f3⟩ := R_lastcell ho 3 (f.f2.length * 7 + 3) rfl (by show 3 < 7; decide); obtain ⟨u4, p4, f4⟩ := R_lastcell ho 4 (f.f2.length * 7 + 4) rfl (by show 4 < 7; decide); obtain ⟨u5, p5, f5⟩ := R_lastcell ho 5 (f.f2.length * 7 + 5) rfl (by show 5 < 7; decide); obtain ⟨u6, p6, f6⟩ := R_lastcell ho 6 (f.f2.length * 7 + 6) rfl (by show 6 < 7; decide); have HME9 := Aside0.mk (elem_in (g9 := g9) HMk.out HWc.out HS1.out HF1.out hg (hat.elim (fun e => Or.inl e) (fun ⟨g, e, h⟩ => Or.inr (by have e2 : g9 = g := Option.some.inj e; omega)))); have HP9 := Aside0.mk (PAt.gr (base := base) HP1.out hg (fun i e => (HT1.out i e).2) HBb.out); have hch9 : Ch (fun k => k = b ∨ some k = (Value.slice A7 f.f2.length c7).ownBlock) W w9 := (HC.out.mono (fun _ _ h => .inl h)).then_grown hg (fun i _ e => .inr e.symm); have hat9 : (Value.slice (some ⟨g9, 0, none⟩) (f.f2 ++ [zmsg]).length c9).ownBlock = (Value.slice A7 f.f2.length c7).ownBlock ∨ ∃ g, (Value.slice (some ⟨g9, 0, none⟩) (f.f2 ++ [zmsg]).length c9).ownBlock = some g ∧ W.heap.size ≤ g := hat.elim (fun e => Or.inl e) (fun ⟨g, e, h⟩ => Or.inr ⟨g, e, Nat.le_trans HC.out.size h⟩); have hbg : g9 ≠ b := (ho.1 g9 (by simp [Value.ownBlock])).1; have hbg2 := hbg.symm; have hcp := HP9.out.cP; have q9 : w9.cell? ⟨b, 4, none⟩ = some (.slice A7 f.f2.length c7) := hcp.2.2.1.trans (congrArg some HV.out); have gg9 : w9.frozen? ⟨b, 4, none⟩ = false := hcp.2.2.2.2.2.2.1 4; have l9 : b < w9.heap.size := hcp.2.2.2.2.2.2.2; clear hcp; have HCh9 := Aside0.mk hch9; have HAt9 := Aside0.mk hat9; have Hg9 := Aside0.mk hg9; clear hch9 hat9; have hidx : ((f.f2.length : Int) < (f.f2.length : Int) + 1) := (by omega); clear ho hg hat) | (refine R_append_step_at k48 (W := w1) base rfl (.tmp 7) (.tmp 11) 26 48 (.agg #[(.string ⟨#[]⟩), (.slice none 0 0), (.slice none 0 0), (.slice none 0 0), (.slice none 0 0), (.slice none 0 0), (.slice none 0 0)]) 160 rfl Tryd.underlying26 info_msg rfl (by decide) (by decide) (.slice A7 f.f2.length c7) f.f2 zmsg [.string ⟨#[]⟩, .slice none 0 0, .slice none 0 0, .slice none 0 0, .slice none 0 0, .slice none 0 0, .slice none 0 0] (okL b b L) (fun k => False) (by simp [Act.eval, Act.put]) W.heap.size (by simp [Act.eval, Act.put]) HBx.out (k48_mkM _ _ _ zmsg (Kd.R_nil _ _ _ _ _) (Kd.R_nil _ _ _ _ _) (Kd.R_nil _ _ _ _ _) (Kd.R_nil _ _ _ _ _) (Kd.R_nil _ _ _ _ _) (Kd.R_nil _ _ _ _ _)) (fun k hk => hk.elim) (fun k hk => (HF1.out k (Nat.le_trans HC.out.size hk)).1) HRw.out (Nat.le_trans HS1.out HC.out.size) (by have := HL.out; omega) ?_; intro v9 w9 ho hg hat; obtain ⟨g9, c9, e9, hg9, hl9, hc9⟩ := Kd.R_form ho (by simp); have HO9 := Aside0.mk ho; subst e9; obtain ⟨u0, p0, f0⟩ := R_lastcell ho 0 (f.f2.length * 7) rfl (by show 0 < 7; decide); obtain ⟨u1, p1, f1⟩ := R_lastcell ho 1 (f.f2.length * 7 + 1) rfl (by show 1 < 7; decide); obtain ⟨u2, p2, f2⟩ := R_lastcell ho 2 (f.f2.length * 7 + 2) rfl (by show 2 < 7; decide); obtain ⟨u3, p3, f3⟩ := R_lastcell ho 3 (f.f2.length * 7 + 3) rfl (by show 3 < 7; decide); obtain ⟨u4, p4, f4⟩ := R_lastcell ho 4 (f.f2.length * 7 + 4) rfl (by show 4 < 7; decide); obtain ⟨u5, p5, f5⟩ := R_lastcell ho 5 (f.f2.length * 7 + 5) rfl (by show 5 < 7; decide); obtain ⟨u6, p6, f6⟩ := R_lastcell ho 6 (f.f2.length * 7 + 6) rfl (by show 6 < 7; decide); have HME9 := Aside0.mk (elem_in (g9 := g9) HMk.out HWc.out HS1.out HF1.out hg (hat.elim (fun e => Or.inl e) (fun ⟨g, e, h⟩ => Or.inr (by have e2 : g9 = g := Option.some.inj e; omega)))); have HP9 := Aside0.mk (PAt.gr (base := base) HP1.out hg (fun i e => (HT1.out i e).2) HBb.out); have hch9 : Ch (fun k => k = b ∨ some k = (Value.slice A7 f.f2.length c7).ownBlock) W w9 := (HC.out.mono (fun _ _ h => .inl h)).then_grown hg (fun i _ e => .inr e.symm); have hat9 : (Value.slice (some ⟨g9, 0, none⟩) (f.f2 ++ [zmsg]).length c9).ownBlock = (Value.slice A7 f.f2.length c7).ownBlock ∨ ∃ g, (Value.slice (some ⟨g9, 0, none⟩) (f.f2 ++ [zmsg]).length c9).ownBlock = some g ∧ W.heap.size ≤ g := hat.elim (fun e => Or.inl e) (fun ⟨g, e, h⟩ => Or.inr ⟨g, e, Nat.le_trans HC.out.size h⟩); have hbg : g9 ≠ b := (ho.1 g9 (by simp [Value.ownBlock])).1; have hbg2 := hbg.symm; have hcp := HP9.out.cP; have q9 : w9.cell? ⟨b, 4, none⟩ = some (.slice A7 f.f2.length c7) := hcp.2.2.1.trans (congrArg some HV.out); have gg9 : w9.frozen? ⟨b, 4, none⟩ = false := hcp.2.2.2.2.2.2.1 4; have l9 : b < w9.heap.size := hcp.2.2.2.2.2.2.2; clear hcp; have HCh9 := Aside0.mk hch9; have HAt9 := Aside0.mk hat9; have Hg9 := Aside0.mk hg9; clear hch9 hat9; have hidx : ((f.f2.length : Int) < (f.f2.length : Int) + 1) := (by omega); clear ho hg hat) | (go_simp; go_at_call 42; rcases bo_cases HR.out with ⟨y, hy, hr2⟩ | ⟨x, s1, hy, hr2⟩; (subst hr2; refine (HMsg.out b gt gm X s _ (W.drew) hy (PAt.far' HP.out (Ch.drew (Ch.refl _ W))) (HE.out.ch (S := fun _ => False) (Ch.drew (Ch.refl _ W)) (fun h => h)) (HT.out.ch (S := fun _ => False) (Ch.drew (Ch.refl _ W)) (fun h => h))).mono ?_; rintro e w1 ⟨rfl, hC⟩; exact ⟨rfl, rfl, (Ch.sm (Ch.trans (Ch.drew (Ch.refl _ W)) hC) : Ch (SM b base) W w1)⟩); (refine (HMsg.out b gt gm X s _ (W.drew) hy (PAt.far' HP.out (Ch.drew (Ch.refl _ W))) (HE.out.ch (S := fun _ => False) (Ch.drew (Ch.refl _ W)) (fun h => h)) (HT.out.ch (S := fun _ => False) (Ch.drew (Ch.refl _ W)) (fun h => h))).mono ?_; rintro e w1 ⟨⟨e1, e2, e3, e4, e5, e6, rfl, hMk⟩, hP, hC⟩; have hl2 : f.f2.length < 549755813888 := Decidable.byContradiction (fun cl => absurd hr2 (by rw [if_neg cl]; simp)); rw [if_pos hl2] at hr2; obtain rfl := Option.some.inj hr2; have HL := Aside0.mk hl2; have HP1 := Aside0.mk hP; have hC2 : Ch (· = b) W w1 := Ch.trans (Ch.drew (Ch.refl _ W)) hC; have HC := Aside0.mk hC2; have HWc := Aside0.mk (((Ch.drew (Ch.refl _ W)) : Ch (fun _ => False) W (W.drew)).size); obtain ⟨t1, t2, t3, t4, t5, t6, eu, a1, a2, a3, a4, a5, a6⟩ := k48_openM hMk; simp only [List.cons.injEq, true_and, and_true] at eu; obtain ⟨rfl, rfl, rfl, rfl, rfl, rfl⟩ := eu; obtain ⟨B1, o1, d1, rfl⟩ := R_slice3 a1; obtain ⟨B2, o2, d2, rfl⟩ := R_slice3 a2; obtain ⟨B3, o3, d3, rfl⟩ := R_slice3 a3; obtain ⟨B4, o4, d4, rfl⟩ := R_slice3 a4; obtain ⟨B5, o5, d5, rfl⟩ := R_slice3 a5; obtain ⟨B6, o6, d6, rfl⟩ := R_slice3 a6; clear a1 a2 a3 a4 a5 a6; have HMk := Aside0.mk hMk; have HRw := Aside0.mk (row_ch HR1.out hC2 (fun k _ _ h _ => h)); have hcp := HP1.out.cP; have q1 : w1.cell? ⟨b, 4, none⟩ = some (.slice A7 f.f2.length c7) := hcp.2.2.1.trans (congrArg some HV.out); have l1 : b < w1.heap.size := hcp.2.2.2.2.2.2.2; clear hcp; clear hMk hP hC hC2 hl2 hr2 hy)) | (go_simp; go_at_call 42; rcases bo_cases HR.out with ⟨y, hy, hr2⟩ | ⟨x, s1, hy, hr2⟩; (subst hr2; refine (HMsg.out b gt gm X s _ ((W.alloc (.cells #[.string ⟨#[]⟩, .slice none 0 0, .slice none 0 0, .slice none 0 0, .slice none 0 0, .slice none 0 0, .slice none 0 0] 48)).drew) hy (PAt.far' HP.out (Ch.drew (Ch.alloc (Ch.refl _ W) (.cells #[.string ⟨#[]⟩, .slice none 0 0, .slice none 0 0, .slice none 0 0, .slice none 0 0, .slice none 0 0, .slice none 0 0] 48)))) (HE.out.ch (S := fun _ => False) (Ch.drew (Ch.alloc (Ch.refl _ W) (.cells #[.string ⟨#[]⟩, .slice none 0 0, .slice none 0 0, .slice none 0 0, .slice none 0 0, .slice none 0 0, .slice none 0 0] 48))) (fun h => h)) (HT.out.ch (S := fun _ => False) (Ch.drew (Ch.alloc (Ch.refl _ W) (.cells #[.string ⟨#[]⟩, .slice none 0 0, .slice none 0 0, .slice none 0 0, .slice none 0 0, .slice none 0 0, .slice none 0 0] 48))) (fun h => h))).mono ?_; rintro e w1 ⟨rfl, hC⟩; exact ⟨rfl, rfl, (Ch.sm (Ch.trans (Ch.drew (Ch.alloc (Ch.refl _ W) (.cells #[.string ⟨#[]⟩, .slice none 0 0, .slice none 0 0, .slice none 0 0, .slice none 0 0, .slice none 0 0, .slice none 0 0] 48))) hC) : Ch (SM b base) W w1)⟩); (refine (HMsg.out b gt gm X s _ ((W.alloc (.cells #[.string ⟨#[]⟩, .slice none 0 0, .slice none 0 0, .slice none 0 0, .slice none 0 0, .slice none 0 0, .slice none 0 0] 48)).drew) hy (PAt.far' HP.out (Ch.drew (Ch.alloc (Ch.refl _ W) (.cells #[.string ⟨#[]⟩, .slice none 0 0, .slice none 0 0, .slice none 0 0, .slice none 0 0, .slice none 0 0, .slice none 0 0] 48)))) (HE.out.ch (S := fun _ => False) (Ch.drew (Ch.alloc (Ch.refl _ W) (.cells #[.string ⟨#[]⟩, .slice none 0 0, .slice none 0 0, .slice none 0 0, .slice none 0 0, .slice none 0 0, .slice none 0 0] 48))) (fun h => h)) (HT.out.ch (S := fun _ => False) (Ch.drew (Ch.alloc (Ch.refl _ W) (.cells #[.string ⟨#[]⟩, .slice none 0 0, .slice none 0 0, .slice none 0 0, .slice none 0 0, .slice none 0 0, .slice none 0 0] 48))) (fun h => h))).mono ?_; rintro e w1 ⟨⟨e1, e2, e3, e4, e5, e6, rfl, hMk⟩, hP, hC⟩; have hl2 : f.f2.length < 549755813888 := Decidable.byContradiction (fun cl => absurd hr2 (by rw [if_neg cl]; simp)); rw [if_pos hl2] at hr2; obtain rfl := Option.some.inj hr2; have HL := Aside0.mk hl2; have HP1 := Aside0.mk hP; have hC2 : Ch (· = b) W w1 := Ch.trans (Ch.drew (Ch.alloc (Ch.refl _ W) (.cells #[.string ⟨#[]⟩, .slice none 0 0, .slice none 0 0, .slice none 0 0, .slice none 0 0, .slice none 0 0, .slice none 0 0] 48))) hC; have HC := Aside0.mk hC2; have HWc := Aside0.mk (((Ch.drew (Ch.alloc (Ch.refl _ W) (.cells #[.string ⟨#[]⟩, .slice none 0 0, .slice none 0 0, .slice none 0 0, .slice none 0 0, .slice none 0 0, .slice none 0 0] 48))) : Ch (fun _ => False) W ((W.alloc (.cells #[.string ⟨#[]⟩, .slice none 0 0, .slice none 0 0, .slice none 0 0, .slice none 0 0, .slice none 0 0, .slice none 0 0] 48)).drew)).size); have HBx := Aside0.mk ((hC.block W.heap.size (by simp) (Nat.ne_of_gt HP.out.lt)).trans (bx_dr (blk_new W (.cells #[.string ⟨#[]⟩, .slice none 0 0, .slice none 0 0, .slice none 0 0, .slice none 0 0, .slice none 0 0, .slice none 0 0] 48)))); obtain ⟨t1, t2, t3, t4, t5, t6, eu, a1, a2, a3, a4, a5, a6⟩ := k48_openM hMk; simp only [List.cons.injEq, true_and, and_true] at eu; obtain ⟨rfl, rfl, rfl, rfl, rfl, rfl⟩ := eu; obtain ⟨B1, o1, d1, rfl⟩ := R_slice3 a1; obtain ⟨B2, o2, d2, rfl⟩ := R_slice3 a2; obtain ⟨B3, o3, d3, rfl⟩ := R_slice3 a3; obtain ⟨B4, o4, d4, rfl⟩ := R_slice3 a4; obtain ⟨B5, o5, d5, rfl⟩ := R_slice3 a5; obtain ⟨B6, o6, d6, rfl⟩ := R_slice3 a6; clear a1 a2 a3 a4 a5 a6; have HMk := Aside0.mk hMk; have HRw := Aside0.mk (row_ch HR1.out hC2 (fun k _ _ h _ => h)); have hcp := HP1.out.cP; have q1 : w1.cell? ⟨b, 4, none⟩ = some (.slice A7 f.f2.length c7) := hcp.2.2.1.trans (congrArg some HV.out); have l1 : b < w1.heap.size := hcp.2.2.2.2.2.2.2; clear hcp; clear hMk hP hC hC2 hl2 hr2 hy)))
 all_goals go_end0
 all_goals
  have hL0 := R_last (d := k48) HO9.out HME9.out (fun k hk => hk)
  have hL : k48.R 48 (setL w9 g9 (f.f2.length * 7) [.string x.f0, .slice B1 o1 d1, .slice B2 o2 d2, .slice B3 o3 d3, .slice B4 o4 d4, .slice B5 o5 d5, .slice B6 o6 d6]) base (okL b b L) (.slice (some ⟨g9, 0, none⟩) (f.f2 ++ [zmsg]).length c9) (f.f2 ++ [x]) ∧ w9.grownBy (setL w9 g9 (f.f2.length * 7) [.string x.f0, .slice B1 o1 d1, .slice B2 o2 d2, .slice B3 o3 d3, .slice B4 o4 d4, .slice B5 o5 d5, .slice B6 o6 d6]) (some g9) := hL0
  clear hL0
  have hc9 := HCh9.out.then_grown hL.2 (fun i hi e => HAt9.out.elim (fun e2 => Or.inr (e.symm.trans e2)) (fun ⟨g, e2, h2⟩ => by injection e with e; injection e2 with e2; subst e; subst e2; exact absurd hi (Nat.not_lt.mpr h2)))
  have hcl := HN1.out _ _ _ hL.1 hc9 HAt9.out
  have hpe := PAt.setX (PAt.gr (base := base) HP9.out hL.2 (fun i e => by injection e with e; subst e; exact Hg9.out) HBb.out) 4 (.slice (some ⟨g9, 0, none⟩) (f.f2 ++ [zmsg]).length c9) { X with p2 := .slice (some ⟨g9, 0, none⟩) (f.f2 ++ [zmsg]).length c9 } (fun _ _ _ _ _ => rfl) rfl
  have hfin : PostF base b X W (.tuple #[]) (.ok ((X.pk, { f with f2 := f.f2 ++ [x] }), s1)) (.returned (.tuple #[])) ((setL w9 g9 (f.f2.length * 7) [.string x.f0, .slice B1 o1 d1, .slice B2 o2 d2, .slice B3 o3 d3, .slice B4 o4 d4, .slice B5 o5 d5, .slice B6 o6 d6]).setCell ⟨b, 4, none⟩ (.slice (some ⟨g9, 0, none⟩) (f.f2 ++ [zmsg]).length c9)) := ⟨rfl, { X with p2 := .slice (some ⟨g9, 0, none⟩) (f.f2 ++ [zmsg]).length c9 }, ⟨rfl, rfl, rfl, rfl, rfl⟩, rfl, hpe, hcl.1, hcl.2⟩
  have hlen : (f.f2 ++ [zmsg]).length = f.f2.length + 1 := by simp
  clear hL hc9 hcl hpe
  rw [hlen] at hfin
 all_goals first
  | (rw [setL7] at hfin; with_reducible exact hfin)
  | (rw [← setL_comm hbg, setL7] at hfin; with_reducible exact hfin)
set_option maxHeartbeats 8000000 in
set_option maxRecDepth 100000 in
theorem tops2_calls (k : Nat) (base b gt : Nat) (X : PFix) (f : PFile) (s : PS) (r : PR (Bool × PFile)) (hr : (Pm.bo (Pm.enum k X.e s) fun x s => if f.f3.length < 1099511627776 then some (.ok ((X.pk, { f with f3 := f.f3 ++ [x] }), s)) else none) = some r) (W : World) (h : PAt b X W s) (hM : FInv base b W X f) (hE : TabE b gt X W) :
  Calls Tryd.prog 43 #[.pointer (some ⟨b, 0, none⟩), .pointer (some ⟨b, 2, none⟩)] W (PostF base b X W (.tuple #[]) r) := by
 have HP := Aside0.mk h
 have HE := Aside0.mk hE
 have HR := Aside0.mk hr
 obtain ⟨L, hr1, hf1, hbs1, hlt1, hn1⟩ := FInv.appG3 hM
 have hcp := h.cP
 have q0 := hcp.2.2.2.1
 have g0 : W.frozen? ⟨b, 5, none⟩ = false := hcp.2.2.2.2.2.2.1 5
 have l0 : b < W.heap.size := h.lt
 have HR1 := Aside0.mk hr1
 have HF1 := Aside0.mk hf1
 have HS1 := Aside0.mk hbs1
 have HT1 := Aside0.mk hlt1
 have HN1 := Aside0.mk hn1
 have HBb := Aside0.mk hM.1.1
 clear h hM hE hr hr1 hf1 hbs1 hlt1 hn1 hcp
 go_enter Tryd.func43, Tryd.ntmps43
 go_wp2
 go_region_law (first | (refine Kd.R_append_step k77 (w0 := w1) (W := w1) base rfl (.tmp 8) (.tmp 11) 27 77 (.agg #[(.string ⟨#[]⟩), (.slice none 0 0), (.slice none 0 0), (.slice none 0 0)]) 88 rfl Tryd.underlying27 info_enm rfl (by decide) (by decide) X.p3 f.f3 x [.string x.f0, e1, e2, e3] (okL b b L) (fun k => W.heap.size ≤ k) (by simp [Act.eval, Act.put]) (by simp [Act.eval, Act.put]) HMk.out (fun k hk => HF1.out k hk) (fun k hk => (HF1.out k (Nat.le_trans HC.out.size hk)).1) HRw.out (Below.refl _ _) (Nat.le_trans HS1.out HC.out.size) (by have := HL.out; omega) ?_; intro v9 w9 ho hb hg hat; clear hb; obtain ⟨A9, n9, c9, rfl⟩ := R_slice3 ho; have HP9 := Aside0.mk (PAt.gr (base := base) HP1.out hg (fun i e => (HT1.out i e).2) HBb.out); have hcl := HN1.out _ _ _ ho ((HC.out.mono (fun _ _ h => .inl h)).then_grown hg (fun i _ e => .inr e.symm)) (hat.elim (fun e => Or.inl e) (fun ⟨g, e, h⟩ => Or.inr ⟨g, e, Nat.le_trans HC.out.size h⟩)); have HF9 := Aside0.mk hcl.1; have HC9 := Aside0.mk hcl.2; have hcp := HP9.out.cP; have q9 := hcp.2.2.2.1; have g9 : w9.frozen? ⟨b, 5, none⟩ = false := hcp.2.2.2.2.2.2.1 5; have l9 : b < w9.heap.size := hcp.2.2.2.2.2.2.2; clear hcp hcl ho hg hat) | (go_simp; go_at_call 44; rcases bo_cases HR.out with ⟨y, hy, hr2⟩ | ⟨x, s1, hy, hr2⟩; (subst hr2; refine (enum_calls b gt X k s _ hy W.drew (PAt.dr HP.out) (HE.out.ch (Ch.drew (Ch.refl (fun _ => False) W)) (fun h => h))).mono ?_; rintro e w1 ⟨rfl, hC⟩; exact ⟨rfl, rfl, (Ch.sm ((Ch.drew (Ch.refl (· = b) W)).trans hC) : Ch (SM b base) W w1)⟩); (refine (enum_calls b gt X k s _ hy W.drew (PAt.dr HP.out) (HE.out.ch (Ch.drew (Ch.refl (fun _ => False) W)) (fun h => h))).mono ?_; rintro e w1 ⟨⟨e1, e2, e3, rfl, hMk⟩, hP, hC⟩; have hl2 : f.f3.length < 1099511627776 := Decidable.byContradiction (fun cl => absurd hr2 (by rw [if_neg cl]; simp)); rw [if_pos hl2] at hr2; obtain rfl := Option.some.inj hr2; have HL := Aside0.mk hl2; have HP1 := Aside0.mk hP; have hC2 : Ch (· = b) W w1 := (Ch.drew (Ch.refl (· = b) W)).trans hC; have HC := Aside0.mk hC2; have hWd : W.heap.size ≤ W.drew.heap.size := (Ch.drew (Ch.refl (fun _ => False) W)).size; have HMk := Aside0.mk (M_enum hMk (base' := base) (ok' := fun k => W.heap.size ≤ k) (by have := HS1.out; omega) (fun k hk => by omega)); have HRw := Aside0.mk (row_ch HR1.out hC2 (fun k _ _ h _ => h)); have hcp := hP.cP; have q1 := hcp.2.2.2.1; have l1 : b < w1.heap.size := hcp.2.2.2.2.2.2.2; clear hcp hMk hP hC hC2 hl2 hr2 hy hWd)))
 all_goals go_end0
 all_goals exact ⟨rfl, { X with p3 := .slice A9 n9 c9 }, ⟨rfl, rfl, rfl, rfl, rfl⟩, rfl, PAt.setX HP9.out 5 _ _ (fun _ _ _ _ _ => rfl) rfl, HF9.out, HC9.out⟩
end Go.Proofs.YtgkodenllfpajaaDoor.A
end
section
namespace Go.Proofs.YtgkodenllfpajaaDoor.A
open Go.RowKit Go.Proofs.YtgkodenllfpajaaDoorW.PrintWords Go.Proofs.YtgkodenllfpajaaDoorW.PrintLast Go.Proofs.YtgkodenllfpajaaDoorW.PrintMore
set_option linter.unusedVariables false
set_option linter.unusedSimpArgs false
namespace Pm
def load2 (k : Nat) (e : Int) (n : Nat) (s : PS) : Option (PR ByteArray) :=
 bo (some (counts e s)) fun _ s =>
  if is e 1 wPublic (nxt s) = true ∨ is e 1 wWeak (nxt s) = true then some (fail e 52 (nxt s)) else bo (text k e mayImport (nxt s)) fun t s => if n < 1099511627776 then bo (some (sign e wSemi (nxt s))) fun _ s => some (.ok (t, s)) else none
def pack (k : Nat) (e : Int) (packed : Bool) (s : PS) : Option (PR ByteArray) :=
 bo (some (unl e (!packed) s)) fun _ s => bo (names k e false false (nxt s)) fun t s => bo (some (sign e wSemi s)) fun _ s => some (.ok (t, s))
def topsC (e : Int) (k : Nat) (packed : Bool) (f : PFile) (s : PS) (D : Option (PR (Bool × PFile))) : Option (PR (Bool × PFile)) :=
 if (now e s).f2.toList = wPackage.toList then bo (pack k e packed s) fun t s => some (.ok ((true, { f with f0 := t }), s))
 else if (now e s).f2.toList = wImport.toList then bo (load2 k e f.f1.length s) fun t s => some (.ok ((packed, { f with f1 := f.f1 ++ [t] }), s))
 else if (now e s).f2.toList = wMessage.toList then bo (message e k s) fun x s => if f.f2.length < 549755813888 then some (.ok ((packed, { f with f2 := f.f2 ++ [x] }), s)) else none
 else if (now e s).f2.toList = wEnum.toList then bo (enum k e s) fun x s => if f.f3.length < 1099511627776 then some (.ok ((packed, { f with f3 := f.f3 ++ [x] }), s)) else none
 else if ((now e s).f2.toList = wOption.toList ∨ (now e s).f2.toList = wService.toList ∨ (now e s).f2.toList = wExtend.toList) then some (fail e 52 s)
 else D
def fileL2 (e : Int) : Nat → Bool → PFile → PS → Option (PR PFile)
 | 0, _, _, _ => none
 | k + 1, packed, f, s =>
  if (now e s).f0 = 5 then some (.ok (f, s)) else if is e 4 wSemi s = true then fileL2 e k packed f (nxt s)
  else if (now e s).f0 = 1 then bo (topsC e k packed f s (bo (some (unl e false s)) fun _ s => some (.ok ((packed, f), s)))) fun x s => fileL2 e k x.1 x.2 s
  else bo (some (unl e false s)) fun _ s => fileL2 e k packed f s
def file2 (k : Nat) (e : Int) (s : PS) : Option (PR PFile) :=
 bo (some (unl e (is e 1 wSyntax s) s)) fun _ s => bo (some (sign e wEq (nxt s))) fun _ s => bo (text k e mayProto s) fun _ s => bo (some (sign e wSemi (nxt s))) fun _ s => fileL2 e k false zfile s
def tokens2 (k : Nat) (l : List PTok) : Option (PFile × Int × Int) :=
 if (l.length : Int) > 16384 then some (zfile, 2, 0) else (file2 k (endOf l) ⟨l, 0, 0⟩).bind fun r => match r with | .ok (f, _) => some (f, 0, 0) | .error (er, at_) => some (zfile, er, at_)
end Pm
set_option maxHeartbeats 8000000 in
set_option maxRecDepth 100000 in
theorem mayProto_calls (t : ByteArray) (m : Int) (W : World) (h : Pm.mayProto t = some m) : Calls Tryd.prog 57 #[.string t] W fun e w' => e = .returned (.int .i64 m) ∧ Below W.heap.size W w' := by
 unfold Pm.mayProto at h
 by_cases c : t.toList = Pm.wProto.toList
 ·rw [if_pos c] at h
  obtain rfl := Option.some.inj h
  have cb : (t.toList == ([112, 114, 111, 116, 111, 51] : List UInt8)) = true := beq_iff_eq.mpr (c.trans (by simp [Pm.wProto, go_sem]))
  clear c h
  go_enter Tryd.func57, Tryd.ntmps57
  go_wp2
  go_ret
  exact ⟨rfl, Below.refl _ _⟩
 ·rw [if_neg c] at h
  obtain rfl := Option.some.inj h
  have cb : (t.toList == ([112, 114, 111, 116, 111, 51] : List UInt8)) = false := beq_eq_false_iff_ne.mpr (fun e => c (e.trans (by simp [Pm.wProto, go_sem])))
  clear c h
  go_enter Tryd.func57, Tryd.ntmps57
  go_wp2
  go_ret
  exact ⟨rfl, Below.refl _ _⟩
set_option maxHeartbeats 8000000 in
set_option maxRecDepth 100000 in
theorem mayImport_calls (t : ByteArray) (m : Int) (W : World) (h : Pm.mayImport t = some m) : Calls Tryd.prog 68 #[.string t] W fun e w' => e = .returned (.int .i64 m) ∧ Below W.heap.size W w' := by
 unfold Pm.mayImport at h
 by_cases c : (t.size : Int) > 255
 ·rw [if_pos c] at h
  obtain rfl := Option.some.inj h
  have cb : decide ((255 : Int) < (t.size : Int)) = true := decide_eq_true c
  clear c h
  go_enter Tryd.func68, Tryd.ntmps68
  go_wp2
  go_ret
  exact ⟨rfl, Below.refl _ _⟩
 ·rw [if_neg c] at h
  have cb : decide ((255 : Int) < (t.size : Int)) = false := decide_eq_false c
  by_cases c2 : t.toList = ([] : List UInt8)
  ·rw [if_pos c2] at h
   obtain rfl := Option.some.inj h
   have cb2 : (t.toList == ([] : List UInt8)) = true := beq_iff_eq.mpr c2
   clear c c2 h
   go_enter Tryd.func68, Tryd.ntmps68
   go_wp2
   go_ret
   exact ⟨rfl, Below.refl _ _⟩
  ·rw [if_neg c2] at h
   obtain rfl := Option.some.inj h
   have cb2 : (t.toList == ([] : List UInt8)) = false := beq_eq_false_iff_ne.mpr c2
   clear c c2 h
   go_enter Tryd.func68, Tryd.ntmps68
   go_wp2
   go_ret
   exact ⟨rfl, Below.refl _ _⟩
set_option maxHeartbeats 8000000 in
set_option maxRecDepth 100000 in
theorem pack_calls (base b : Nat) (X : PFix) (k : Nat) (f : PFile) (s : PS) (r : PR (Bool × PFile)) (hr : (Pm.bo (Pm.pack k X.e X.pk s) fun t s => some (.ok ((true, { f with f0 := t }), s))) = some r) (W : World) (h : PAt b X W s) (hM : FInv base b W X f) :
  Calls Tryd.prog 39 #[.pointer (some ⟨b, 0, none⟩), .pointer (some ⟨b, 2, none⟩)] W (PostF base b X W (.tuple #[]) r) := by
 have HP := Aside0.mk h
 have HC := Aside0.mk (Ch.refl (· = b) W)
 have HM := Aside0.mk hM
 have HG := Aside0.mk True.intro
 simp only [Pm.pack, bo_assoc] at hr
 have HR := Aside0.mk hr
 have hcp := h.cP
 have q6 := hcp.2.2.2.2.1
 have g6 : W.frozen? ⟨b, 6, none⟩ = false := hcp.2.2.2.2.2.2.1 6
 have l0 : b < W.heap.size := h.lt
 clear h hM hr hcp
 go_enter Tryd.func39, Tryd.ntmps39
 go_wp2_with fail
 rcases bo_cases HR.out with ⟨y, hy, hr2⟩ | ⟨⟨⟩, s1, hy, hr2⟩; (clear HR; subst hr2; refine (unless_calls b X (!X.pk) s _ HP.out.fr).mono ?_; rintro e w1 hU; rw [(Option.some.inj hy : Pm.unl X.e (!X.pk) s = _)] at hU; obtain ⟨rfl, hC⟩ := hU; exact ⟨rfl, rfl, Ch.sm (Ch.trans HC.out.fr hC)⟩); ((try dsimp only at hr2); clear HR; have HR := Aside0.mk hr2; clear hr2; refine (unless_calls b X (!X.pk) s _ HP.out.fr).mono ?_; rintro e w1 hU; rw [(Option.some.inj hy : Pm.unl X.e (!X.pk) s = _)] at hU; obtain ⟨rfl, hP, hC⟩ := hU; have n0_ := Aside0.mk hP; have n1_ := Aside0.mk (Ch.trans HC.out.fr hC); clear hP hC hy; (try clear HP); clear HC; have HP := n0_; have HC := n1_; clear n0_ n1_)
 clear q6 g6 l0
 have hcp := HP.out.cP
 have q6 := hcp.2.2.2.2.1
 have g6 : w1.frozen? ⟨b, 6, none⟩ = false := hcp.2.2.2.2.2.2.1 6
 have l0 : b < w1.heap.size := HP.out.lt
 clear hcp
 go_wp2_with fail
 have HFX := Aside0.mk (show FInv base b W { X with pk := true } f from HM.out)
 have n0_ := Aside0.mk (PAt.setX HP.out 6 (.bool true) { X with pk := true } (fun _ _ _ _ _ => rfl) rfl)
 have n1_ := Aside0.mk (Ch.set HC.out (fun _ => rfl) (.bool true) : Ch (· = b) W (w1.setCell ⟨b, 6, none⟩ (.bool true)))
 obtain ⟨X0, rfl⟩ : ∃ Y : PFix, Y = X := ⟨_, rfl⟩
 obtain ⟨X, hX⟩ : ∃ Y : PFix, Y = { X0 with pk := true } := ⟨_, rfl⟩
 rw [← hX] at n0_ HFX
 have hXe : X0.e = X.e := by rw [hX]
 have hXl := Aside0.mk (show XLike X0 X ∧ X.pk = true by rw [hX]; exact ⟨⟨rfl, rfl, rfl, rfl, rfl⟩, rfl⟩)
 have hr3 := HR.out
 rw [hXe] at hr3
 clear HP HC HR HM q6 g6 l0 hX hXe
 have HP := n0_
 have HC := n1_
 have HR := Aside0.mk hr3
 clear hr3 n0_ n1_
 refine (next_calls b X s1 _ HP.out.fr).mono ?_; rintro e w1 ⟨rfl, hP, hC⟩; have n0_ := Aside0.mk hP; have n1_ := Aside0.mk (Ch.trans HC.out.fr hC); clear HP HC hP hC; have HP := n0_; have HC := n1_; clear n0_ n1_
 go_wp2_with fail
 rcases bo_cases HR.out with ⟨y, hy, hr2⟩ | ⟨t, s2, hy, hr2⟩; (clear HR; subst hr2; refine (names_calls b X k false false (Pm.nxt s1) _ hy _ HP.out.fr).mono ?_; rintro e w1 ⟨rfl, hC⟩; exact ⟨rfl, rfl, Ch.sm (Ch.trans HC.out.fr hC)⟩); ((try dsimp only at hr2); clear HR; have HR := Aside0.mk hr2; clear hr2; refine (names_calls b X k false false (Pm.nxt s1) _ hy _ HP.out.fr).mono ?_; rintro e w1 ⟨rfl, hP, hC⟩; have n0_ := Aside0.mk hP; have n1_ := Aside0.mk (Ch.trans HC.out.fr hC); clear hP hC hy; (try clear HP); clear HC; have HP := n0_; have HC := n1_; clear n0_ n1_)
 have hcp := HP.out.cP
 have q2 := hcp.1
 have g2 : w1.frozen? ⟨b, 2, none⟩ = false := hcp.2.2.2.2.2.2.1 2
 have l0 : b < w1.heap.size := HP.out.lt
 clear hcp
 go_wp2_with fail
 have HFX2 := Aside0.mk (show FInv base b W { X with p0 := .string t } { f with f0 := t } from ⟨HFX.out.1, rfl, HFX.out.2.2⟩)
 have n0_ := Aside0.mk (PAt.setX HP.out 2 (.string t) { X with p0 := .string t } (fun _ _ _ _ _ => rfl) rfl)
 have n1_ := Aside0.mk (Ch.set HC.out (fun _ => rfl) (.string t) : Ch (· = b) W (w1.setCell ⟨b, 2, none⟩ (.string t)))
 obtain ⟨X1, rfl⟩ : ∃ Y : PFix, Y = X := ⟨_, rfl⟩
 obtain ⟨X, hX⟩ : ∃ Y : PFix, Y = { X1 with p0 := .string t } := ⟨_, rfl⟩
 rw [← hX] at n0_ HFX2
 have hXe : X1.e = X.e := by rw [hX]
 have hXl2 := Aside0.mk (show XLike X0 X ∧ X.pk = true by rw [hX]; exact hXl.out)
 have hr3 := HR.out
 rw [hXe] at hr3
 clear HP HC HR HFX q2 g2 l0 hX hXe hXl
 have HP := n0_
 have HC := n1_
 have HR := Aside0.mk hr3
 clear hr3 n0_ n1_
 rcases bo_cases HR.out with ⟨y, hy, hr2⟩ | ⟨⟨⟩, s3, hy, hr2⟩; (clear HR; subst hr2; refine (sign_calls b X Pm.wSemi s2 _ HP.out.fr).mono ?_; rintro e w1 hU; rw [(Option.some.inj hy : Pm.sign X.e Pm.wSemi s2 = _)] at hU; obtain ⟨rfl, hC⟩ := hU; exact ⟨rfl, rfl, Ch.sm (Ch.trans HC.out.fr hC)⟩); ((try dsimp only at hr2); clear HR; have HR := Aside0.mk hr2; clear hr2; refine (sign_calls b X Pm.wSemi s2 _ HP.out.fr).mono ?_; rintro e w1 hU; rw [(Option.some.inj hy : Pm.sign X.e Pm.wSemi s2 = _)] at hU; obtain ⟨rfl, hP, hC⟩ := hU; have n0_ := Aside0.mk hP; have n1_ := Aside0.mk (Ch.trans HC.out.fr hC); clear hP hC hy; (try clear HP); clear HC; have HP := n0_; have HC := n1_; clear n0_ n1_)
 go_wp2
 go_end0
 obtain rfl := Option.some.inj HR.out
 exact ⟨rfl, X, hXl2.out.1, hXl2.out.2, HP.out, FInv.b HFX2.out HC.out, Ch.sm HC.out⟩
set_option maxHeartbeats 8000000 in
set_option maxRecDepth 100000 in
theorem load_calls (base b : Nat) (X : PFix) (k : Nat) (f : PFile) (s : PS) (r : PR (Bool × PFile)) (hr : (Pm.bo (Pm.load2 k X.e f.f1.length s) fun t s => some (.ok ((X.pk, { f with f1 := f.f1 ++ [t] }), s))) = some r) (W : World) (h : PAt b X W s) (hM : FInv base b W X f) :
  Calls Tryd.prog 40 #[.pointer (some ⟨b, 0, none⟩), .pointer (some ⟨b, 2, none⟩)] W (PostF base b X W (.tuple #[]) r) := by
 have HP := Aside0.mk h
 have HC := Aside0.mk (Ch.refl (· = b) W)
 have HM := Aside0.mk hM
 have HG := Aside0.mk True.intro
 simp only [Pm.load2, bo_assoc] at hr
 have HR := Aside0.mk hr
 clear h hM hr
 go_enter Tryd.func40, Tryd.ntmps40
 go_wp2_with fail
 rcases bo_cases HR.out with ⟨y, hy, hr2⟩ | ⟨⟨⟩, s0, hy, hr2⟩; (clear HR; subst hr2; refine (counts_calls b X s _ HP.out.fr).mono ?_; rintro e w1 hU; rw [(Option.some.inj hy : Pm.counts X.e s = _)] at hU; obtain ⟨rfl, hC⟩ := hU; exact ⟨rfl, rfl, Ch.sm (Ch.trans HC.out.fr hC)⟩); ((try dsimp only at hr2); clear HR; have HR := Aside0.mk hr2; clear hr2; refine (counts_calls b X s _ HP.out.fr).mono ?_; rintro e w1 hU; rw [(Option.some.inj hy : Pm.counts X.e s = _)] at hU; obtain ⟨rfl, hP, hC⟩ := hU; have n0_ := Aside0.mk hP; have n1_ := Aside0.mk (Ch.trans HC.out.fr hC); clear hP hC hy; (try clear HP); clear HC; have HP := n0_; have HC := n1_; clear n0_ n1_)
 go_wp2_with fail
 refine (next_calls b X s0 _ HP.out.fr).mono ?_; rintro e w1 ⟨rfl, hP, hC⟩; have n0_ := Aside0.mk hP; have n1_ := Aside0.mk (Ch.trans HC.out.fr hC); clear HP HC hP hC; have HP := n0_; have HC := n1_; clear n0_ n1_
 obtain ⟨s1, hs1⟩ : ∃ s1, s1 = Pm.nxt s0 := ⟨_, rfl⟩
 have hr3 := HR.out; rw [← hs1] at hr3; clear HR; have HR := Aside0.mk hr3; clear hr3
 have n0_ := HP.out
 rw [← hs1] at n0_
 clear HP
 have HP := Aside0.mk n0_
 clear n0_ hs1
 go_wp2_with fail
 cases g1 : Pm.is X.e 1 Pm.wPublic s1 with
 | true =>
  have hr3 := HR.out; rw [if_pos (Or.inl g1)] at hr3; simp only [Pm.fail, Pm.bo] at hr3; clear HR; have HR := Aside0.mk hr3; clear hr3
  obtain rfl := Option.some.inj HR.out
  have HGr := Aside0.mk g1
  clear g1 HR
  refine (is_calls b X 1 Pm.wPublic s1 _ HP.out.fr).mono ?_; rintro e w1 ⟨rfl, hb⟩; rw [HGr.out]; have n0_ := Aside0.mk (PAt.below HP.out.fr hb); have n1_ := Aside0.mk (Ch.then_below HC.out.fr hb); clear HP HC hb; have HP := n0_; have HC := n1_; clear n0_ n1_
  go_wp2_with fail
  refine (fail_calls b X 52 s1 _ HP.out.fr).mono ?_; rintro e w1 ⟨rfl, hb⟩; exact ⟨rfl, rfl, Ch.sm (Ch.then_below HC.out.fr hb)⟩
 | false =>
  have HGr := Aside0.mk g1
  refine (is_calls b X 1 Pm.wPublic s1 _ HP.out.fr).mono ?_; rintro e w1 ⟨rfl, hb⟩; rw [HGr.out]; have n0_ := Aside0.mk (PAt.below HP.out.fr hb); have n1_ := Aside0.mk (Ch.then_below HC.out.fr hb); clear HP HC hb; have HP := n0_; have HC := n1_; clear n0_ n1_
  clear HGr
  go_wp2_with fail
  cases g2 : Pm.is X.e 1 Pm.wWeak s1 with
  | true =>
   have hr3 := HR.out; rw [if_pos (Or.inr g2)] at hr3; simp only [Pm.fail, Pm.bo] at hr3; clear HR; have HR := Aside0.mk hr3; clear hr3
   obtain rfl := Option.some.inj HR.out
   have HGr := Aside0.mk g2
   clear g1 g2 HR
   refine (is_calls b X 1 Pm.wWeak s1 _ HP.out.fr).mono ?_; rintro e w1 ⟨rfl, hb⟩; rw [HGr.out]; have n0_ := Aside0.mk (PAt.below HP.out.fr hb); have n1_ := Aside0.mk (Ch.then_below HC.out.fr hb); clear HP HC hb; have HP := n0_; have HC := n1_; clear n0_ n1_
   go_wp2_with fail
   refine (fail_calls b X 52 s1 _ HP.out.fr).mono ?_; rintro e w1 ⟨rfl, hb⟩; exact ⟨rfl, rfl, Ch.sm (Ch.then_below HC.out.fr hb)⟩
  | false =>
   have hr3 := HR.out; rw [if_neg (by rw [g1, g2]; simp), bo_assoc] at hr3; clear HR; have HR := Aside0.mk hr3; clear hr3
   have HGr := Aside0.mk g2
   clear g1 g2
   refine (is_calls b X 1 Pm.wWeak s1 _ HP.out.fr).mono ?_; rintro e w1 ⟨rfl, hb⟩; rw [HGr.out]; have n0_ := Aside0.mk (PAt.below HP.out.fr hb); have n1_ := Aside0.mk (Ch.then_below HC.out.fr hb); clear HP HC hb; have HP := n0_; have HC := n1_; clear n0_ n1_
   clear HGr
   obtain ⟨we, rfl⟩ : ∃ we : World, we = w1 := ⟨_, rfl⟩
   obtain ⟨L, hr1, hf1, hbs1, hlt1, hn1⟩ := FInv.appG1 (FInv.b HM.out HC.out)
   have hcp := HP.out.cP
   have q0 := hcp.2.1
   have g0 : we.frozen? ⟨b, 3, none⟩ = false := hcp.2.2.2.2.2.2.1 3
   have l0 : b < we.heap.size := HP.out.lt
   have HR1 := Aside0.mk hr1
   have HF1 := Aside0.mk hf1
   have HS1 := Aside0.mk hbs1
   have HT1 := Aside0.mk hlt1
   have HN1 := Aside0.mk hn1
   have HBb := Aside0.mk HM.out.1.1
   have HC0 := HC
   clear HC hcp hr1 hf1 hbs1 hlt1 hn1
   go_wp2
   go_region_law (first | (refine Kd.R_append_step Kd.string (w0 := w1) (W := w1) base rfl (.tmp 20) (.tmp 23) 22 9 (.string ⟨#[]⟩) 16 rfl Tryd.underlying22 info_str rfl (by decide) (by decide) X.p1 f.f1 tx [.string tx] (okL b b L) (fun _ => False) (by simp [Act.eval, Act.put]) (by simp [Act.eval, Act.put]) rfl (fun _ hk => hk.elim) (fun k hk => (HF1.out k (Nat.le_trans HC.out.size hk)).1) HRw.out (Below.refl _ _) (Nat.le_trans HS1.out HC.out.size) (by have := HL.out; omega) ?_; intro v9 w9 ho hb hg hat; clear hb; obtain ⟨A9, n9, c9, rfl⟩ := R_slice3 ho; have HP9 := Aside0.mk (PAt.gr (base := base) HP1.out hg (fun i e => (HT1.out i e).2) HBb.out); have hcl := HN1.out _ _ _ ho ((HC.out.mono (fun _ _ h => .inl h)).then_grown hg (fun i _ e => .inr e.symm)) (hat.elim (fun e => Or.inl e) (fun ⟨g, e, h⟩ => Or.inr ⟨g, e, Nat.le_trans HC.out.size h⟩)); have HF9 := Aside0.mk hcl.1; have HC9 := Aside0.mk hcl.2; have hcp := HP9.out.cP; have q9 := hcp.2.1; have g9 : w9.frozen? ⟨b, 3, none⟩ = false := hcp.2.2.2.2.2.2.1 3; have l9 : b < w9.heap.size := hcp.2.2.2.2.2.2.2; clear hcp hcl ho hg hat) | (go_simp; go_at_call 56; rcases bo_cases HR.out with ⟨y, hy, hr2⟩ | ⟨tx, s2, hy, hr2⟩; (subst hr2; refine (text_calls b X k 68 Pm.mayImport (fun _ _ => rfl) ⟨fun t m W h => mayImport_calls t m W h⟩ s1 _ hy we.drew (PAt.dr HP.out)).mono ?_; rintro e w1 ⟨rfl, hC⟩; exact ⟨rfl, rfl, Ch.sm (HC0.out.trans ((Ch.drew (Ch.refl (· = b) we)).trans hC))⟩); (refine (text_calls b X k 68 Pm.mayImport (fun _ _ => rfl) ⟨fun t m W h => mayImport_calls t m W h⟩ s1 _ hy we.drew (PAt.dr HP.out)).mono ?_; rintro e w1 ⟨rfl, hP, hC⟩; have hl2 : f.f1.length < 1099511627776 := Decidable.byContradiction (fun cl => absurd hr2 (by rw [if_neg cl]; simp [Pm.bo])); rw [if_pos hl2, bo_assoc] at hr2; have HR2 := Aside0.mk hr2; have HL := Aside0.mk hl2; have HP1 := Aside0.mk hP; have hC2 : Ch (· = b) we w1 := (Ch.drew (Ch.refl (· = b) we)).trans hC; have HC := Aside0.mk hC2; have HRw := Aside0.mk (row_ch HR1.out hC2 (fun k _ _ h _ => h)); have hcp := hP.cP; have q1 := hcp.2.1; have l1 : b < w1.heap.size := hcp.2.2.2.2.2.2.2; clear hcp hP hC hC2 hl2 hr2 hy)))
   all_goals go_wp2_with fail
   all_goals
    have n0_ := Aside0.mk (PAt.setX HP9.out 3 (.slice A9 n9 c9) { X with p1 := .slice A9 n9 c9 } (fun _ _ _ _ _ => rfl) rfl)
    have HF := HF9
    have HCs := Aside0.mk ((Ch.sm HC0.out : Ch (SM b base) W we).trans HC9.out)
    obtain ⟨X0, rfl⟩ : ∃ Y : PFix, Y = X := ⟨_, rfl⟩
    obtain ⟨X, hX⟩ : ∃ Y : PFix, Y = { X0 with p1 := .slice A9 n9 c9 } := ⟨_, rfl⟩
    rw [← hX] at n0_ HF
    have hXe : X0.e = X.e := by rw [hX]
    have hXl := Aside0.mk (show XLike X0 X ∧ X.pk = X0.pk by rw [hX]; exact ⟨⟨rfl, rfl, rfl, rfl, rfl⟩, rfl⟩)
    have hr3 := HR2.out
    rw [hXe] at hr3
    clear HP HP1 HP9 HC HC0 HR HR2 HM HF9 HC9 HR1 HF1 HS1 HT1 HN1 HRw HL q0 g0 l0 q1 l1 q9 g9 l9 hX hXe
    have HP := n0_
    have HC := Aside0.mk (Ch.refl (· = b) (w9.setCell ⟨b, 3, none⟩ (.slice A9 n9 c9)))
    have HR := Aside0.mk hr3
    clear hr3 n0_
    refine (next_calls b X s2 _ HP.out.fr).mono ?_; rintro e w1 ⟨rfl, hP, hC⟩; have n0_ := Aside0.mk hP; have n1_ := Aside0.mk (Ch.trans HC.out.fr hC); clear HP HC hP hC; have HP := n0_; have HC := n1_; clear n0_ n1_
    go_wp2_with fail
    rcases bo_cases HR.out with ⟨y, hy, hr2⟩ | ⟨⟨⟩, s3, hy, hr2⟩; (clear HR; subst hr2; refine (sign_calls b X Pm.wSemi (Pm.nxt s2) _ HP.out.fr).mono ?_; rintro e w1 hU; rw [(Option.some.inj hy : Pm.sign X.e Pm.wSemi (Pm.nxt s2) = _)] at hU; obtain ⟨rfl, hC⟩ := hU; exact ⟨rfl, rfl, HCs.out.trans (Ch.sm (Ch.trans HC.out.fr hC))⟩); ((try dsimp only at hr2); clear HR; have HR := Aside0.mk hr2; clear hr2; refine (sign_calls b X Pm.wSemi (Pm.nxt s2) _ HP.out.fr).mono ?_; rintro e w1 hU; rw [(Option.some.inj hy : Pm.sign X.e Pm.wSemi (Pm.nxt s2) = _)] at hU; obtain ⟨rfl, hP, hC⟩ := hU; have n0_ := Aside0.mk hP; have n1_ := Aside0.mk (Ch.trans HC.out.fr hC); clear hP hC hy; (try clear HP); clear HC; have HP := n0_; have HC := n1_; clear n0_ n1_)
    go_wp2
    go_end0
    obtain rfl := Option.some.inj HR.out
    exact ⟨rfl, X, hXl.out.1, hXl.out.2, HP.out, FInv.b HF.out HC.out, HCs.out.trans (Ch.sm HC.out)⟩
end Go.Proofs.YtgkodenllfpajaaDoor.A
end
section
namespace Go.Proofs.YtgkodenllfpajaaDoor.A
open Go.RowKit Go.Proofs.YtgkodenllfpajaaDoorW.PrintWords Go.Proofs.YtgkodenllfpajaaDoorW.PrintLast Go.Proofs.YtgkodenllfpajaaDoorW.PrintMore
set_option linter.unusedVariables false
set_option linter.unusedSimpArgs false
def TabT (b g : Nat) (X : PFix) (W : World) : Prop := X.t0 = .slice (some ⟨g, 0, none⟩) 7 7 ∧ g ≠ b ∧ W.heap[g]? = some (.cells tabT 83 (0, 0))
theorem TabT.ch {b g : Nat} {X : PFix} {S : Nat → Prop} {W W' : World} (h : TabT b g X W) (hc : Ch S W W') (hS : ¬ S g) : TabT b g X W' := ⟨h.1, h.2.1, (hc.block g (Array.getElem?_eq_some_iff.1 h.2.2).1 hS).trans h.2.2⟩
theorem hitF {base b : Nat} {X : PFix} {W w w' : World} {r : PR (Bool × PFile)} {e : Ending} (hC : Ch (· = b) W w) (hU : PostF base b X w (.tuple #[]) r e w') : (e = .returned (.tuple #[]) ∧ PostF base b X W (.bool true) r (.returned (.bool true)) w') ∨ (∃ v, e = .panicked v ∧ PostF base b X W (.bool true) r e w') := by
 rcases r with y | ⟨⟨pk, f⟩, s⟩
 ·exact Or.inr ⟨_, hU.1, hU.1, (Ch.sm hC).trans hU.2⟩
 ·obtain ⟨h1, X', h2, h3, h4, h5, h6⟩ := hU
  exact Or.inl ⟨h1, rfl, X', h2, h3, h4, h5, (Ch.sm hC).trans h6⟩
set_option maxHeartbeats 8000000 in
set_option maxRecDepth 100000 in
theorem startedT_yes (k : Nat) (base b gt gm gT : Nat) (X : PFix) (f : PFile) (s : PS) (r : PR (Bool × PFile)) (D : Option (PR (Bool × PFile))) (hr : Pm.topsC X.e k X.pk f s D = some r) (hin : (Pm.now X.e s).f2.toList ∈ wordsT) (W : World) (h : PAt b X W s) (hM : FInv base b W X f) (hE : TabE b gt X W) (hm : TabM b gm X W) (hT : TabT b gT X W) :
  Calls Tryd.prog 59 #[.pointer (some ⟨b, 0, none⟩), .slice (some ⟨gT, 0, none⟩) 7 7, .pointer (some ⟨b, 2, none⟩)] W (PostF base b X W (.bool true) r) := by
 unfold Pm.topsC at hr
 refine startedT_calls b gT X s (.pointer (some ⟨b, 2, none⟩)) (PostF base b X W (.bool true) r) W h hT.2.2 hT.2.1 (fun hm => absurd rfl (hm _ hin)) ?_ ?_ ?_ ?_ ?_
 ·intro hw w hP hC
  rw [if_pos (hw.trans wlPackage.symm)] at hr
  exact (pack_calls base b X k f s r hr w hP (FInv.b hM hC)).mono (fun e w' hU => hitF hC hU)
 ·intro hw w hP hC
  rw [if_neg (fun e => absurd (hw.symm.trans (e.trans wlPackage)) (by decide))] at hr
  rw [if_pos (hw.trans wlImport.symm)] at hr
  exact (load_calls base b X k f s r hr w hP (FInv.b hM hC)).mono (fun e w' hU => hitF hC hU)
 ·intro hw w hP hC
  rw [if_neg (fun e => absurd (hw.symm.trans (e.trans wlPackage)) (by decide))] at hr
  rw [if_neg (fun e => absurd (hw.symm.trans (e.trans wlImport)) (by decide))] at hr
  rw [if_pos (hw.trans wlMessage.symm)] at hr
  exact (tops1_calls k base b gt gm X f s r hr w hP (FInv.b hM hC) (hE.ch hC hE.2.1) (hm.ch hC hm.2.1)).mono (fun e w' hU => hitF hC hU)
 ·intro hw w hP hC
  rw [if_neg (fun e => absurd (hw.symm.trans (e.trans wlPackage)) (by decide))] at hr
  rw [if_neg (fun e => absurd (hw.symm.trans (e.trans wlImport)) (by decide))] at hr
  rw [if_neg (fun e => absurd (hw.symm.trans (e.trans wlMessage)) (by decide))] at hr
  rw [if_pos (hw.trans wlEnum.symm)] at hr
  exact (tops2_calls k base b gt X f s r hr w hP (FInv.b hM hC) (hE.ch hC hE.2.1)).mono (fun e w' hU => hitF hC hU)
 ·intro hw w' hC
  have hr52 : some (Pm.fail (α := Bool × PFile) X.e 52 s) = some r := by
   rcases hw with hw | hw | hw
   ·rw [if_neg (fun e => absurd (hw.symm.trans (e.trans wlPackage)) (by decide))] at hr
    rw [if_neg (fun e => absurd (hw.symm.trans (e.trans wlImport)) (by decide))] at hr
    rw [if_neg (fun e => absurd (hw.symm.trans (e.trans wlMessage)) (by decide))] at hr
    rw [if_neg (fun e => absurd (hw.symm.trans (e.trans wlEnum)) (by decide))] at hr
    rw [if_pos (Or.inl (hw.trans wlOption.symm))] at hr
    exact hr
   ·rw [if_neg (fun e => absurd (hw.symm.trans (e.trans wlPackage)) (by decide))] at hr
    rw [if_neg (fun e => absurd (hw.symm.trans (e.trans wlImport)) (by decide))] at hr
    rw [if_neg (fun e => absurd (hw.symm.trans (e.trans wlMessage)) (by decide))] at hr
    rw [if_neg (fun e => absurd (hw.symm.trans (e.trans wlEnum)) (by decide))] at hr
    rw [if_pos (Or.inr (Or.inl (hw.trans wlService.symm)))] at hr
    exact hr
   ·rw [if_neg (fun e => absurd (hw.symm.trans (e.trans wlPackage)) (by decide))] at hr
    rw [if_neg (fun e => absurd (hw.symm.trans (e.trans wlImport)) (by decide))] at hr
    rw [if_neg (fun e => absurd (hw.symm.trans (e.trans wlMessage)) (by decide))] at hr
    rw [if_neg (fun e => absurd (hw.symm.trans (e.trans wlEnum)) (by decide))] at hr
    rw [if_pos (Or.inr (Or.inr (hw.trans wlExtend.symm)))] at hr
    exact hr
  obtain rfl := Option.some.inj hr52
  exact ⟨rfl, Ch.sm hC⟩
theorem Pm.topsC_no {e : Int} {k : Nat} {pk : Bool} {f : PFile} {s : PS} {D : Option (PR (Bool × PFile))} (h : (Pm.now e s).f2.toList ∉ wordsT) : Pm.topsC e k pk f s D = D := by
 have hn : ∀ w, w ∈ wordsT → (Pm.now e s).f2.toList ≠ w := fun w hw e => h (e ▸ hw)
 unfold Pm.topsC
 rw [if_neg (fun e => hn _ (by simp [wordsT]) (e.trans wlPackage))]
 rw [if_neg (fun e => hn _ (by simp [wordsT]) (e.trans wlImport))]
 rw [if_neg (fun e => hn _ (by simp [wordsT]) (e.trans wlMessage))]
 rw [if_neg (fun e => hn _ (by simp [wordsT]) (e.trans wlEnum))]
 rw [if_neg (fun e => e.elim (fun e => hn _ (by simp [wordsT]) (e.trans wlOption)) (fun e => e.elim (fun e => hn _ (by simp [wordsT]) (e.trans wlService)) (fun e => hn _ (by simp [wordsT]) (e.trans wlExtend))))]
theorem startedT_no (b gm : Nat) (X : PFix) (s : PS) (pin : Value) (hin : (Pm.now X.e s).f2.toList ∉ wordsT) (W : World) (h : PAt b X W s) (hT : TabT b gm X W) :
  Calls Tryd.prog 59 #[.pointer (some ⟨b, 0, none⟩), .slice (some ⟨gm, 0, none⟩) 7 7, pin] W (fun e w' => e = .returned (.bool false) ∧ PAt b X w' s ∧ Ch (· = b) W w') := by
 have hn : ∀ w, w ∈ wordsT → (Pm.now X.e s).f2.toList ≠ w := fun w hw e => hin (e ▸ hw)
 refine startedT_calls b gm X s pin _ W h hT.2.2 hT.2.1 (fun _ w' hP hC => ⟨rfl, hP, hC⟩) ?_ ?_ ?_ ?_ ?_
 all_goals first
  | (intro hw; exact absurd hw (hn _ (by simp [wordsT])))
  | (rintro (hw | hw | hw) <;> exact absurd hw (hn _ (by simp [wordsT])))
theorem unl_false (e : Int) (s : PS) : ∃ x, Pm.unl e false s = .error x := by
 unfold Pm.unl Pm.fail
 rw [if_neg Bool.false_ne_true]
 split
 ·exact ⟨_, rfl⟩
 ·exact ⟨_, rfl⟩
def PostFile (base b : Nat) (X : PFix) (W : World) (r : PR PFile) (e : Ending) (w' : World) : Prop :=
 match r with
 | .ok (f, s) => e = .returned (.tuple #[]) ∧ ∃ X', XLike X X' ∧ PAt b X' w' s ∧ FInv base b w' X' f ∧ Ch (SM b base) W w'
 | .error x => e = thrown x.1 x.2 ∧ Ch (SM b base) W w'
theorem XLike.refl (X : PFix) : XLike X X := ⟨rfl, rfl, rfl, rfl, rfl⟩
theorem XLike.trans {X Y Z : PFix} (h : XLike X Y) (k : XLike Y Z) : XLike X Z := ⟨k.1.trans h.1, k.2.1.trans h.2.1, k.2.2.1.trans h.2.2.1, k.2.2.2.1.trans h.2.2.2.1, k.2.2.2.2.trans h.2.2.2.2⟩
section
variable {P : Program} {ops : Array Oper} {Q : Exit → Act → World → Prop}
theorem goesP_ {oi : Oper} {N : Option Tmp} {a : Act} {w : World} {K : Act → World → Prop} {f : FuncId} {fn : Func} {asx : Array Operand} {ts : Array TypeId} (hf : P.funcs[f]? = some fn) (hname : (fn.name == "runtime.NumGoroutine") = false) (hb : fn.body.isSome = true) (args : Array Value)
  (hw : Region.wanted oi (yielded ops a.tmps) = true) (hN : oi.dst = N) (hop : oi.op = .call { callee := .value (.func f), args := asx, argTypes := ts }) (hargs : asx.map a.eval = args)
  (h : Calls P f args w fun e w' => (∃ v, e = .returned v ∧ K (a.put N v) w') ∨ (∃ c, e = .panicked c ∧ Q (.panic c) a w')) : if Region.wanted oi (yielded ops a.tmps) = true then Oper.wp P oi a w K Q else K (a.put N undef) w := by
 have he := enters_ hf hname hb args w
 have hrun : (execOp a.eval oi).run P w = .ok (.enter f args) w := by
  unfold execOp
  simp [hop, resolve, Deferred.ofValue, invoke, Act.eval, hargs, he]
 rw [if_pos hw]
 subst hN
 unfold Oper.wp
 rw [hrun, Oper.upon_enter]
 refine h.mono fun e w'' hh => ?_
 rcases hh with ⟨v, rfl, hk⟩ | ⟨c, rfl, hq⟩
 ·exact hk
 ·exact hq
end
set_option maxHeartbeats 8000000 in
set_option maxRecDepth 100000 in
theorem file_calls (k : Nat) (base b gt gm gT : Nat) (X : PFix) (s : PS) (r : PR PFile) (hr : Pm.file2 k X.e s = some r) (W : World) (h : PAt b X W s) (hM : FInv base b W X Pm.zfile) (hpk : X.pk = false) (hE : TabE b gt X W) (hm : TabM b gm X W) (hT : TabT b gT X W) (hg : gt < base ∧ gm < base ∧ gT < base) :
  Calls Tryd.prog 25 #[.pointer (some ⟨b, 0, none⟩)] W (PostFile base b X W r) := by
 have HP := Aside0.mk h
 have HC := Aside0.mk (Ch.refl (· = b) W)
 have HM0 := Aside0.mk hM
 have HPk := Aside0.mk hpk
 have HE := Aside0.mk hE
 have HTm := Aside0.mk hm
 have HT := Aside0.mk hT
 have HGl := Aside0.mk hg
 have HG := Aside0.mk True.intro
 simp only [Pm.file2] at hr
 have HR := Aside0.mk hr
 clear h hM hr hpk hE hm hT hg
 go_enter Tryd.func25, Tryd.ntmps25
 go_wp2_with fail
 refine (is_calls b X 1 Pm.wSyntax s _ HP.out.fr).mono ?_; rintro e w1 ⟨rfl, hb⟩; have n0_ := Aside0.mk (PAt.below HP.out.fr hb); have n1_ := Aside0.mk (Ch.then_below HC.out.fr hb); clear HP HC hb; have HP := n0_; have HC := n1_; clear n0_ n1_
 go_wp2_with fail
 rcases bo_cases HR.out with ⟨y, hy, hr2⟩ | ⟨⟨⟩, s1, hy, hr2⟩; (clear HR; subst hr2; refine (unless_calls b X (Pm.is X.e 1 Pm.wSyntax s) s _ HP.out.fr).mono ?_; rintro e w1 hU; rw [(Option.some.inj hy : Pm.unl X.e (Pm.is X.e 1 Pm.wSyntax s) s = _)] at hU; obtain ⟨rfl, hC⟩ := hU; exact ⟨rfl, rfl, Ch.sm (Ch.trans HC.out.fr hC)⟩); ((try dsimp only at hr2); clear HR; have HR := Aside0.mk hr2; clear hr2; refine (unless_calls b X (Pm.is X.e 1 Pm.wSyntax s) s _ HP.out.fr).mono ?_; rintro e w1 hU; rw [(Option.some.inj hy : Pm.unl X.e (Pm.is X.e 1 Pm.wSyntax s) s = _)] at hU; obtain ⟨rfl, hP, hC⟩ := hU; have n0_ := Aside0.mk hP; have n1_ := Aside0.mk (Ch.trans HC.out.fr hC); clear hP hC hy; (try clear HP); clear HC; have HP := n0_; have HC := n1_; clear n0_ n1_)
 go_wp2_with fail
 refine (next_calls b X s1 _ HP.out.fr).mono ?_; rintro e w1 ⟨rfl, hP, hC⟩; have n0_ := Aside0.mk hP; have n1_ := Aside0.mk (Ch.trans HC.out.fr hC); clear HP HC hP hC; have HP := n0_; have HC := n1_; clear n0_ n1_
 go_wp2_with fail
 rcases bo_cases HR.out with ⟨y, hy, hr2⟩ | ⟨⟨⟩, s2, hy, hr2⟩; (clear HR; subst hr2; refine (sign_calls b X Pm.wEq (Pm.nxt s1) _ HP.out.fr).mono ?_; rintro e w1 hU; rw [(Option.some.inj hy : Pm.sign X.e Pm.wEq (Pm.nxt s1) = _)] at hU; obtain ⟨rfl, hC⟩ := hU; exact ⟨rfl, rfl, Ch.sm (Ch.trans HC.out.fr hC)⟩); ((try dsimp only at hr2); clear HR; have HR := Aside0.mk hr2; clear hr2; refine (sign_calls b X Pm.wEq (Pm.nxt s1) _ HP.out.fr).mono ?_; rintro e w1 hU; rw [(Option.some.inj hy : Pm.sign X.e Pm.wEq (Pm.nxt s1) = _)] at hU; obtain ⟨rfl, hP, hC⟩ := hU; have n0_ := Aside0.mk hP; have n1_ := Aside0.mk (Ch.trans HC.out.fr hC); clear hP hC hy; (try clear HP); clear HC; have HP := n0_; have HC := n1_; clear n0_ n1_)
 go_wp2_with fail
 rcases bo_cases HR.out with ⟨y, hy, hr2⟩ | ⟨tx, s3, hy, hr2⟩; (clear HR; subst hr2; refine (text_calls b X k 57 Pm.mayProto (fun _ _ => rfl) ⟨fun t m W h => mayProto_calls t m W h⟩ s2 _ hy _ HP.out.fr).mono ?_; rintro e w1 ⟨rfl, hC⟩; exact ⟨rfl, rfl, Ch.sm (Ch.trans HC.out.fr hC)⟩); ((try dsimp only at hr2); clear HR; have HR := Aside0.mk hr2; clear hr2; refine (text_calls b X k 57 Pm.mayProto (fun _ _ => rfl) ⟨fun t m W h => mayProto_calls t m W h⟩ s2 _ hy _ HP.out.fr).mono ?_; rintro e w1 ⟨rfl, hP, hC⟩; have n0_ := Aside0.mk hP; have n1_ := Aside0.mk (Ch.trans HC.out.fr hC); clear hP hC hy; (try clear HP); clear HC; have HP := n0_; have HC := n1_; clear n0_ n1_)
 go_wp2_with fail
 refine (next_calls b X s3 _ HP.out.fr).mono ?_; rintro e w1 ⟨rfl, hP, hC⟩; have n0_ := Aside0.mk hP; have n1_ := Aside0.mk (Ch.trans HC.out.fr hC); clear HP HC hP hC; have HP := n0_; have HC := n1_; clear n0_ n1_
 go_wp2_with fail
 rcases bo_cases HR.out with ⟨y, hy, hr2⟩ | ⟨⟨⟩, s4, hy, hr2⟩; (clear HR; subst hr2; refine (sign_calls b X Pm.wSemi (Pm.nxt s3) _ HP.out.fr).mono ?_; rintro e w1 hU; rw [(Option.some.inj hy : Pm.sign X.e Pm.wSemi (Pm.nxt s3) = _)] at hU; obtain ⟨rfl, hC⟩ := hU; exact ⟨rfl, rfl, Ch.sm (Ch.trans HC.out.fr hC)⟩); ((try dsimp only at hr2); clear HR; have HR := Aside0.mk hr2; clear hr2; refine (sign_calls b X Pm.wSemi (Pm.nxt s3) _ HP.out.fr).mono ?_; rintro e w1 hU; rw [(Option.some.inj hy : Pm.sign X.e Pm.wSemi (Pm.nxt s3) = _)] at hU; obtain ⟨rfl, hP, hC⟩ := hU; have n0_ := Aside0.mk hP; have n1_ := Aside0.mk (Ch.trans HC.out.fr hC); clear hP hC hy; (try clear HP); clear HC; have HP := n0_; have HC := n1_; clear n0_ n1_)
 go_wp2
 have HM := Aside0.mk (FInv.b HM0.out HC.out)
 have HCs := Aside0.mk (Ch.sm HC.out : Ch (SM b base) W w1)
 have hr3 := HR.out
 rw [← HPk.out] at hr3
 clear HR HC HM0
 have HR := Aside0.mk hr3
 clear hr3
 obtain ⟨X0, rfl⟩ : ∃ Y : PFix, Y = X := ⟨_, rfl⟩
 go_loopg [] k (fun kq w' => ∃ (X : PFix) (f' : PFile) (s' : PS), Aside0 (XLike X0 X) ∧ Aside0 (Pm.fileL2 X.e kq X.pk f' s' = some r) ∧ Aside0 (PAt b X w' s') ∧ Aside0 (FInv base b w' X f') ∧ Aside0 (Ch (SM b base) W w'))
 case atStart => exact ⟨_, _, _, ⟨XLike.refl _⟩, HR, HP, HM, HCs⟩
 case round =>
  clear HR HP HM HCs
  obtain ⟨X, f', s', HXl, HR, HP, HM, HCs⟩ := hrel
  have HC := Aside0.mk (Ch.refl (· = b) wr)
  cases gk with
  | zero => exact absurd HR.out (by simp [Pm.fileL2])
  | succ k1 =>
   have hr2 := HR.out
   clear HR
   simp only [Pm.fileL2] at hr2
   have HR := Aside0.mk hr2
   clear hr2
   have HtE := Aside0.mk (show TabE b gt X wr from ⟨HXl.out.2.2.2.2.trans HE.out.1, HE.out.2.1, (HE.out.ch HCs.out (fun h => h.elim HE.out.2.1 (fun h => absurd HGl.out.1 (Nat.not_lt.mpr h)))).2.2⟩)
   have HtM := Aside0.mk (show TabM b gm X wr from ⟨HXl.out.2.2.2.1.trans HTm.out.1, HTm.out.2.1, (HTm.out.ch HCs.out (fun h => h.elim HTm.out.2.1 (fun h => absurd HGl.out.2.1 (Nat.not_lt.mpr h)))).2.2⟩)
   have HtT := Aside0.mk (show TabT b gT X wr from ⟨HXl.out.2.2.1.trans HT.out.1, HT.out.2.1, (HT.out.ch HCs.out (fun h => h.elim HT.out.2.1 (fun h => absurd HGl.out.2.2 (Nat.not_lt.mpr h)))).2.2⟩)
   have hf0 := fld0
   go_wp2_with fail
   refine (now_calls b X s' _ HP.out.fr).mono ?_; rintro e w1 ⟨rfl, hb⟩; have n0_ := Aside0.mk (PAt.below HP.out.fr hb); have n1_ := Aside0.mk (Ch.then_below HC.out.fr hb); clear HP HC hb; have HP := n0_; have HC := n1_; clear n0_ n1_
   by_cases k5 : (Pm.now X.e s').f0 = 5
   ·have hr3 := HR.out; rw [if_pos k5] at hr3; clear HR; have HR := Aside0.mk hr3; clear hr3
    obtain rfl := Option.some.inj HR.out
    have kb : ((Pm.now X.e s').f0 == 5) = true := beq_iff_eq.mpr k5
    have kc : ((Pm.now X.e s').f0 != 5) = false := by simp [k5]
    clear k5 HR
    go_wp2
    go_end0
    exact ⟨rfl, X, HXl.out, HP.out, FInv.b HM.out HC.out, HCs.out.trans (Ch.sm HC.out)⟩
   ·have hr3 := HR.out; rw [if_neg k5] at hr3; clear HR; have HR := Aside0.mk hr3; clear hr3
    have kb5 : ((Pm.now X.e s').f0 == 5) = false := beq_eq_false_iff_ne.mpr k5
    have kc5 : ((Pm.now X.e s').f0 != 5) = true := by simp [k5]
    clear k5
    go_wp2_with fail
    cases g : Pm.is X.e 4 Pm.wSemi s' with
    | true =>
     have hr3 := HR.out; rw [if_pos g] at hr3; clear HR; have HR := Aside0.mk hr3; clear hr3
     have HGr := Aside0.mk g
     clear g
     refine (is_calls b X 4 Pm.wSemi s' _ HP.out.fr).mono ?_; rintro e w1 ⟨rfl, hb⟩; rw [HGr.out]; have n0_ := Aside0.mk (PAt.below HP.out.fr hb); have n1_ := Aside0.mk (Ch.then_below HC.out.fr hb); clear HP HC hb; have HP := n0_; have HC := n1_; clear n0_ n1_
     go_wp2_with fail
     refine (next_calls b X s' _ HP.out.fr).mono ?_; rintro e w1 ⟨rfl, hP, hC⟩; have n0_ := Aside0.mk hP; have n1_ := Aside0.mk (Ch.trans HC.out.fr hC); clear HP HC hP hC; have HP := n0_; have HC := n1_; clear n0_ n1_
     have HM2 := Aside0.mk (FInv.b HM.out HC.out)
     have HCs2 := Aside0.mk (HCs.out.trans (Ch.sm HC.out))
     clear HM HC HCs
     go_wp2
     go_roundg k1
     case measure => omega
     case rel => exact ⟨X, _, _, HXl, HR, HP, HM2, HCs2⟩
    | false =>
     have hr3 := HR.out; rw [if_neg (by rw [g]; exact Bool.false_ne_true)] at hr3; clear HR; have HR := Aside0.mk hr3; clear hr3
     have HGr := Aside0.mk g
     clear g
     refine (is_calls b X 4 Pm.wSemi s' _ HP.out.fr).mono ?_; rintro e w1 ⟨rfl, hb⟩; rw [HGr.out]; have n0_ := Aside0.mk (PAt.below HP.out.fr hb); have n1_ := Aside0.mk (Ch.then_below HC.out.fr hb); clear HP HC hb; have HP := n0_; have HC := n1_; clear n0_ n1_
     clear HGr
     by_cases kd : (Pm.now X.e s').f0 = 1
     ·have hr3 := HR.out; rw [if_pos kd] at hr3; clear HR; have HR := Aside0.mk hr3; clear hr3
      have kb : ((Pm.now X.e s').f0 == 1) = true := beq_iff_eq.mpr kd
      clear kd
      by_cases hin : (Pm.now X.e s').f2.toList ∈ wordsT
      ·have HIn := Aside0.mk hin
       clear hin
       rcases bo_cases HR.out with ⟨y, hy, hr2⟩ | ⟨⟨pk2, f2⟩, s2, hy, hr2⟩
       ·subst hr2
        have HY := Aside0.mk hy
        clear hy HR
        go_wp2
        refine start_ (n := 17) (S := fun w' => w'.cell? ⟨b, 9, none⟩ = some (.slice (some ⟨gT, 0, none⟩) 7 7)) (ds := []) #[false, false, false, false, false, false, false, false, false, false, false, false, false, false, false, false, false] (by kernel_rfl) rfl rfl ((by simpa using (HP.out.cP.2.2.2.2.2.1.trans (congrArg some HtT.out.1)))) (fun hHeld => ?_)
        refine pure_ (i := 0) (N := some 24) (v := ?_) (a' := ?_) #[true, false, false, false, false, false, false, false, false, false, false, false, false, false, false, false, false] rfl rfl (by kernel_rfl) (fun _ _ _ h => h) (Or.inl ⟨by rfl, ?_⟩) ?_ ?_
        rotate_left
        ·intro w'
         go_simp
         with_reducible rfl
        rotate_left
        ·simp only [Act.put, List.setIfInBounds_toArray, List.set_cons_zero, List.set_cons_succ, i64_w, i32_w]
         rfl
        refine pure_ (i := 1) (N := some 25) (v := ?_) (a' := ?_) #[true, true, false, false, false, false, false, false, false, false, false, false, false, false, false, false, false] rfl rfl (by kernel_rfl) (fun _ _ _ h => h) (Or.inl ⟨by rfl, ?_⟩) ?_ ?_
        rotate_left
        ·intro w'
         go_simp
         with_reducible rfl
        rotate_left
        ·simp only [Act.put, List.setIfInBounds_toArray, List.set_cons_zero, List.set_cons_succ, i64_w, i32_w]
         rfl
        refine one_ (i := 2) (N := some 26) #[true, true, true, false, false, false, false, false, false, false, false, false, false, false, false, false, false] rfl rfl (by kernel_rfl) (by decide) (fun K hK => ?_)
        refine goesP_ Tryd.func58 (by kernel_rfl) rfl #[.pointer (some ⟨b, 0, none⟩)] (by rfl) rfl rfl (by simp only [List.map_toArray, List.map_cons, List.map_nil]; rfl) ?_
        refine (now_calls b X s' _ HP.out.fr).mono ?_; rintro e w1 ⟨rfl, hb⟩; have n0_ := Aside0.mk (PAt.below HP.out.fr hb); have n1_ := Aside0.mk (Ch.then_below HC.out.fr hb); clear HP HC hb; have HP := n0_; have HC := n1_; clear n0_ n1_
        refine Or.inl ⟨_, rfl, ?_⟩
        refine hK.out _ _ ((HP.out.cP.2.2.2.2.2.1.trans (congrArg some HtT.out.1))) (fun hHeld => ?_)
        clear hK K
        refine norm_ (a' := ?_) ?_ ?_
        rotate_left
        ·show Act.put _ (some 26) _ = _
         simp only [Act.put, List.setIfInBounds_toArray, List.set_cons_zero, List.set_cons_succ, i64_w, i32_w]
         rfl
        refine pure_ (i := 3) (N := some 27) (v := ?_) (a' := ?_) #[true, true, true, true, false, false, false, false, false, false, false, false, false, false, false, false, false] rfl rfl (by kernel_rfl) (fun _ _ _ h => h) (Or.inl ⟨by rfl, ?_⟩) ?_ ?_
        rotate_left
        ·intro w'
         go_simp
         with_reducible rfl
        rotate_left
        ·simp only [Act.put, List.setIfInBounds_toArray, List.set_cons_zero, List.set_cons_succ, i64_w, i32_w]
         rfl
        refine pure_ (i := 4) (N := some 28) (v := ?_) (a' := ?_) #[true, true, true, true, true, false, false, false, false, false, false, false, false, false, false, false, false] rfl rfl (by kernel_rfl) (fun _ _ _ h => h) (Or.inl ⟨by rfl, ?_⟩) ?_ ?_
        rotate_left
        ·intro w'
         go_simp
         with_reducible rfl
        rotate_left
        ·simp only [Act.put, List.setIfInBounds_toArray, List.set_cons_zero, List.set_cons_succ, i64_w, i32_w]
         rfl
        refine pure_ (i := 5) (N := some 29) (v := ?_) (a' := ?_) #[true, true, true, true, true, true, false, false, false, false, false, false, false, false, false, false, false] rfl rfl (by kernel_rfl) (fun _ _ _ h => h) (Or.inl ⟨by rfl, ?_⟩) ?_ ?_
        rotate_left
        ·intro w'
         go_simp
         with_reducible rfl
        rotate_left
        ·simp only [Act.put, List.setIfInBounds_toArray, List.set_cons_zero, List.set_cons_succ, i64_w, i32_w]
         rfl
        refine pure_ (i := 6) (N := some 30) (v := ?_) (a' := ?_) #[true, true, true, true, true, true, true, false, false, false, false, false, false, false, false, false, false] rfl rfl (by kernel_rfl) (fun _ _ _ h => h) (Or.inl ⟨by rfl, ?_⟩) ?_ ?_
        rotate_left
        ·intro w'
         go_simp
         with_reducible rfl
        rotate_left
        ·simp only [Act.put, List.setIfInBounds_toArray, List.set_cons_zero, List.set_cons_succ, i64_w, i32_w]
         rfl
        refine pure_ (i := 7) (N := some 31) (v := ?_) (a' := ?_) #[true, true, true, true, true, true, true, true, false, false, false, false, false, false, false, false, false] rfl rfl (by kernel_rfl) (fun _ _ _ h => h) (Or.inl ⟨by rfl, ?_⟩) ?_ ?_
        rotate_left
        ·intro w'
         go_simp
         with_reducible rfl
        rotate_left
        ·simp only [Act.put, List.setIfInBounds_toArray, List.set_cons_zero, List.set_cons_succ, i64_w, i32_w]
         rfl
        refine pure_ (i := 8) (N := some 32) (v := ?_) (a' := ?_) #[true, true, true, true, true, true, true, true, true, false, false, false, false, false, false, false, false] rfl rfl (by kernel_rfl) (fun _ _ _ h => h) (Or.inl ⟨by rfl, ?_⟩) ?_ ?_
        rotate_left
        ·intro w'
         go_simp
         with_reducible rfl
        rotate_left
        ·simp only [Act.put, List.setIfInBounds_toArray, List.set_cons_zero, List.set_cons_succ, i64_w, i32_w]
         rfl
        refine pure_ (i := 9) (N := some 33) (v := ?_) (a' := ?_) #[true, true, true, true, true, true, true, true, true, true, false, false, false, false, false, false, false] rfl rfl (by kernel_rfl) (fun _ _ _ h => h) (Or.inl ⟨by rfl, ?_⟩) ?_ ?_
        rotate_left
        ·intro w'
         go_simp
         with_reducible rfl
        rotate_left
        ·simp only [Act.put, List.setIfInBounds_toArray, List.set_cons_zero, List.set_cons_succ, i64_w, i32_w]
         rfl
        refine pure_ (i := 11) (N := some 35) (v := ?_) (a' := ?_) #[true, true, true, true, true, true, true, true, true, true, false, true, false, false, false, false, false] rfl rfl (by kernel_rfl) (fun _ _ _ h => h) (Or.inl ⟨by rfl, ?_⟩) ?_ ?_
        rotate_left
        ·intro w'
         go_simp
         with_reducible rfl
        rotate_left
        ·simp only [Act.put, List.setIfInBounds_toArray, List.set_cons_zero, List.set_cons_succ, i64_w, i32_w]
         rfl
        refine pure_ (i := 12) (N := some 36) (v := ?_) (a' := ?_) #[true, true, true, true, true, true, true, true, true, true, false, true, true, false, false, false, false] rfl rfl (by kernel_rfl) (fun _ _ _ h => h) (Or.inl ⟨by rfl, ?_⟩) ?_ ?_
        rotate_left
        ·intro w'
         go_simp
         with_reducible rfl
        rotate_left
        ·simp only [Act.put, List.setIfInBounds_toArray, List.set_cons_zero, List.set_cons_succ, i64_w, i32_w]
         rfl
        refine pure_ (i := 13) (N := some 37) (v := ?_) (a' := ?_) #[true, true, true, true, true, true, true, true, true, true, false, true, true, true, false, false, false] rfl rfl (by kernel_rfl) (fun _ _ _ h => h) (Or.inl ⟨by rfl, ?_⟩) ?_ ?_
        rotate_left
        ·intro w'
         go_simp
         with_reducible rfl
        rotate_left
        ·simp only [Act.put, List.setIfInBounds_toArray, List.set_cons_zero, List.set_cons_succ, i64_w, i32_w]
         rfl
        refine take_ (i := 10) (N := some 34) (v := ?_) (a' := ?_) #[true, true, true, true, true, true, true, true, true, true, true, true, true, true, false, false, false] rfl rfl (by kernel_rfl) (fun _ _ _ h => h) (Or.inl ⟨by rfl, ?_⟩) hHeld ?_ ?_
        rotate_left
        ·intro w' s0
         go_simp
         with_reducible rfl
        rotate_left
        ·simp only [Act.put, List.setIfInBounds_toArray, List.set_cons_zero, List.set_cons_succ, i64_w, i32_w]
         rfl
        refine one_ (i := 14) (N := some 38) #[true, true, true, true, true, true, true, true, true, true, true, true, true, true, true, false, false] rfl rfl (by kernel_rfl) (by decide) (fun K hK => ?_)
        refine goesP_ Tryd.func59 (by kernel_rfl) rfl #[.pointer (some ⟨b, 0, none⟩), .slice (some ⟨gT, 0, none⟩) 7 7, .pointer (some ⟨b, 2, none⟩)] (by rfl) rfl rfl (by simp only [List.map_toArray, List.map_cons, List.map_nil]; rfl) ?_
        refine (startedT_yes k1 base b gt gm gT X f' s' _ _ HY.out HIn.out _ HP.out.fr (FInv.b HM.out HC.out.fr) (HtE.out.ch HC.out.fr HtE.out.2.1) (HtM.out.ch HC.out.fr HtM.out.2.1) (HtT.out.ch HC.out.fr HtT.out.2.1)).mono ?_
        rintro e w1 ⟨rfl, hC⟩
        exact Or.inr ⟨_, rfl, rfl, rfl, HCs.out.trans ((Ch.sm HC.out.fr).trans hC)⟩
       ·have HY := Aside0.mk hy
        have HR2 := Aside0.mk hr2
        clear hy HR hr2
        go_wp2
        refine start_ (n := 17) (S := fun w' => w'.cell? ⟨b, 9, none⟩ = some (.slice (some ⟨gT, 0, none⟩) 7 7)) (ds := []) #[false, false, false, false, false, false, false, false, false, false, false, false, false, false, false, false, false] (by kernel_rfl) rfl rfl ((by simpa using (HP.out.cP.2.2.2.2.2.1.trans (congrArg some HtT.out.1)))) (fun hHeld => ?_)
        refine pure_ (i := 0) (N := some 24) (v := ?_) (a' := ?_) #[true, false, false, false, false, false, false, false, false, false, false, false, false, false, false, false, false] rfl rfl (by kernel_rfl) (fun _ _ _ h => h) (Or.inl ⟨by rfl, ?_⟩) ?_ ?_
        rotate_left
        ·intro w'
         go_simp
         with_reducible rfl
        rotate_left
        ·simp only [Act.put, List.setIfInBounds_toArray, List.set_cons_zero, List.set_cons_succ, i64_w, i32_w]
         rfl
        refine pure_ (i := 1) (N := some 25) (v := ?_) (a' := ?_) #[true, true, false, false, false, false, false, false, false, false, false, false, false, false, false, false, false] rfl rfl (by kernel_rfl) (fun _ _ _ h => h) (Or.inl ⟨by rfl, ?_⟩) ?_ ?_
        rotate_left
        ·intro w'
         go_simp
         with_reducible rfl
        rotate_left
        ·simp only [Act.put, List.setIfInBounds_toArray, List.set_cons_zero, List.set_cons_succ, i64_w, i32_w]
         rfl
        refine one_ (i := 2) (N := some 26) #[true, true, true, false, false, false, false, false, false, false, false, false, false, false, false, false, false] rfl rfl (by kernel_rfl) (by decide) (fun K hK => ?_)
        refine goesP_ Tryd.func58 (by kernel_rfl) rfl #[.pointer (some ⟨b, 0, none⟩)] (by rfl) rfl rfl (by simp only [List.map_toArray, List.map_cons, List.map_nil]; rfl) ?_
        refine (now_calls b X s' _ HP.out.fr).mono ?_; rintro e w1 ⟨rfl, hb⟩; have n0_ := Aside0.mk (PAt.below HP.out.fr hb); have n1_ := Aside0.mk (Ch.then_below HC.out.fr hb); clear HP HC hb; have HP := n0_; have HC := n1_; clear n0_ n1_
        refine Or.inl ⟨_, rfl, ?_⟩
        refine hK.out _ _ ((HP.out.cP.2.2.2.2.2.1.trans (congrArg some HtT.out.1))) (fun hHeld => ?_)
        clear hK K
        refine norm_ (a' := ?_) ?_ ?_
        rotate_left
        ·show Act.put _ (some 26) _ = _
         simp only [Act.put, List.setIfInBounds_toArray, List.set_cons_zero, List.set_cons_succ, i64_w, i32_w]
         rfl
        refine pure_ (i := 3) (N := some 27) (v := ?_) (a' := ?_) #[true, true, true, true, false, false, false, false, false, false, false, false, false, false, false, false, false] rfl rfl (by kernel_rfl) (fun _ _ _ h => h) (Or.inl ⟨by rfl, ?_⟩) ?_ ?_
        rotate_left
        ·intro w'
         go_simp
         with_reducible rfl
        rotate_left
        ·simp only [Act.put, List.setIfInBounds_toArray, List.set_cons_zero, List.set_cons_succ, i64_w, i32_w]
         rfl
        refine pure_ (i := 4) (N := some 28) (v := ?_) (a' := ?_) #[true, true, true, true, true, false, false, false, false, false, false, false, false, false, false, false, false] rfl rfl (by kernel_rfl) (fun _ _ _ h => h) (Or.inl ⟨by rfl, ?_⟩) ?_ ?_
        rotate_left
        ·intro w'
         go_simp
         with_reducible rfl
        rotate_left
        ·simp only [Act.put, List.setIfInBounds_toArray, List.set_cons_zero, List.set_cons_succ, i64_w, i32_w]
         rfl
        refine pure_ (i := 5) (N := some 29) (v := ?_) (a' := ?_) #[true, true, true, true, true, true, false, false, false, false, false, false, false, false, false, false, false] rfl rfl (by kernel_rfl) (fun _ _ _ h => h) (Or.inl ⟨by rfl, ?_⟩) ?_ ?_
        rotate_left
        ·intro w'
         go_simp
         with_reducible rfl
        rotate_left
        ·simp only [Act.put, List.setIfInBounds_toArray, List.set_cons_zero, List.set_cons_succ, i64_w, i32_w]
         rfl
        refine pure_ (i := 6) (N := some 30) (v := ?_) (a' := ?_) #[true, true, true, true, true, true, true, false, false, false, false, false, false, false, false, false, false] rfl rfl (by kernel_rfl) (fun _ _ _ h => h) (Or.inl ⟨by rfl, ?_⟩) ?_ ?_
        rotate_left
        ·intro w'
         go_simp
         with_reducible rfl
        rotate_left
        ·simp only [Act.put, List.setIfInBounds_toArray, List.set_cons_zero, List.set_cons_succ, i64_w, i32_w]
         rfl
        refine pure_ (i := 7) (N := some 31) (v := ?_) (a' := ?_) #[true, true, true, true, true, true, true, true, false, false, false, false, false, false, false, false, false] rfl rfl (by kernel_rfl) (fun _ _ _ h => h) (Or.inl ⟨by rfl, ?_⟩) ?_ ?_
        rotate_left
        ·intro w'
         go_simp
         with_reducible rfl
        rotate_left
        ·simp only [Act.put, List.setIfInBounds_toArray, List.set_cons_zero, List.set_cons_succ, i64_w, i32_w]
         rfl
        refine pure_ (i := 8) (N := some 32) (v := ?_) (a' := ?_) #[true, true, true, true, true, true, true, true, true, false, false, false, false, false, false, false, false] rfl rfl (by kernel_rfl) (fun _ _ _ h => h) (Or.inl ⟨by rfl, ?_⟩) ?_ ?_
        rotate_left
        ·intro w'
         go_simp
         with_reducible rfl
        rotate_left
        ·simp only [Act.put, List.setIfInBounds_toArray, List.set_cons_zero, List.set_cons_succ, i64_w, i32_w]
         rfl
        refine pure_ (i := 9) (N := some 33) (v := ?_) (a' := ?_) #[true, true, true, true, true, true, true, true, true, true, false, false, false, false, false, false, false] rfl rfl (by kernel_rfl) (fun _ _ _ h => h) (Or.inl ⟨by rfl, ?_⟩) ?_ ?_
        rotate_left
        ·intro w'
         go_simp
         with_reducible rfl
        rotate_left
        ·simp only [Act.put, List.setIfInBounds_toArray, List.set_cons_zero, List.set_cons_succ, i64_w, i32_w]
         rfl
        refine pure_ (i := 11) (N := some 35) (v := ?_) (a' := ?_) #[true, true, true, true, true, true, true, true, true, true, false, true, false, false, false, false, false] rfl rfl (by kernel_rfl) (fun _ _ _ h => h) (Or.inl ⟨by rfl, ?_⟩) ?_ ?_
        rotate_left
        ·intro w'
         go_simp
         with_reducible rfl
        rotate_left
        ·simp only [Act.put, List.setIfInBounds_toArray, List.set_cons_zero, List.set_cons_succ, i64_w, i32_w]
         rfl
        refine pure_ (i := 12) (N := some 36) (v := ?_) (a' := ?_) #[true, true, true, true, true, true, true, true, true, true, false, true, true, false, false, false, false] rfl rfl (by kernel_rfl) (fun _ _ _ h => h) (Or.inl ⟨by rfl, ?_⟩) ?_ ?_
        rotate_left
        ·intro w'
         go_simp
         with_reducible rfl
        rotate_left
        ·simp only [Act.put, List.setIfInBounds_toArray, List.set_cons_zero, List.set_cons_succ, i64_w, i32_w]
         rfl
        refine pure_ (i := 13) (N := some 37) (v := ?_) (a' := ?_) #[true, true, true, true, true, true, true, true, true, true, false, true, true, true, false, false, false] rfl rfl (by kernel_rfl) (fun _ _ _ h => h) (Or.inl ⟨by rfl, ?_⟩) ?_ ?_
        rotate_left
        ·intro w'
         go_simp
         with_reducible rfl
        rotate_left
        ·simp only [Act.put, List.setIfInBounds_toArray, List.set_cons_zero, List.set_cons_succ, i64_w, i32_w]
         rfl
        refine take_ (i := 10) (N := some 34) (v := ?_) (a' := ?_) #[true, true, true, true, true, true, true, true, true, true, true, true, true, true, false, false, false] rfl rfl (by kernel_rfl) (fun _ _ _ h => h) (Or.inl ⟨by rfl, ?_⟩) hHeld ?_ ?_
        rotate_left
        ·intro w' s0
         go_simp
         with_reducible rfl
        rotate_left
        ·simp only [Act.put, List.setIfInBounds_toArray, List.set_cons_zero, List.set_cons_succ, i64_w, i32_w]
         rfl
        refine one_ (i := 14) (N := some 38) #[true, true, true, true, true, true, true, true, true, true, true, true, true, true, true, false, false] rfl rfl (by kernel_rfl) (by decide) (fun K hK => ?_)
        refine goesP_ Tryd.func59 (by kernel_rfl) rfl #[.pointer (some ⟨b, 0, none⟩), .slice (some ⟨gT, 0, none⟩) 7 7, .pointer (some ⟨b, 2, none⟩)] (by rfl) rfl rfl (by simp only [List.map_toArray, List.map_cons, List.map_nil]; rfl) ?_
        refine (startedT_yes k1 base b gt gm gT X f' s' _ _ HY.out HIn.out _ HP.out.fr (FInv.b HM.out HC.out.fr) (HtE.out.ch HC.out.fr HtE.out.2.1) (HtM.out.ch HC.out.fr HtM.out.2.1) (HtT.out.ch HC.out.fr HtT.out.2.1)).mono ?_
        rintro e w1 ⟨rfl, X2, hl2, hpk2, hP, hF, hC⟩
        have HX2 := Aside0.mk hl2
        have HPk2 := Aside0.mk hpk2
        have HP2 := Aside0.mk hP
        have HF2 := Aside0.mk hF
        have HCs2 := Aside0.mk (HCs.out.trans ((Ch.sm HC.out.fr).trans hC))
        clear hl2 hpk2 hP hF hC
        refine Or.inl ⟨_, rfl, ?_⟩
        refine hK.out _ _ ((HP2.out.cP.2.2.2.2.2.1.trans (congrArg some (HX2.out.2.2.1.trans HtT.out.1)))) (fun hHeld => ?_)
        clear hK K
        refine norm_ (a' := ?_) ?_ ?_
        rotate_left
        ·show Act.put _ (some 38) _ = _
         simp only [Act.put, List.setIfInBounds_toArray, List.set_cons_zero, List.set_cons_succ, i64_w, i32_w]
         rfl
        refine pure_ (i := 15) (N := some 39) (v := ?_) (a' := ?_) #[true, true, true, true, true, true, true, true, true, true, true, true, true, true, true, true, false] rfl rfl (by kernel_rfl) (fun _ _ _ h => h) (Or.inl ⟨by rfl, ?_⟩) ?_ ?_
        rotate_left
        ·intro w'
         go_simp
         with_reducible rfl
        rotate_left
        ·simp only [Act.put, List.setIfInBounds_toArray, List.set_cons_zero, List.set_cons_succ, i64_w, i32_w]
         rfl
        refine one_ (i := 16) (N := some 40) #[true, true, true, true, true, true, true, true, true, true, true, true, true, true, true, true, true] rfl rfl (by kernel_rfl) (by decide) (fun K hK => ?_)
        refine goesP_ Tryd.func52 (by kernel_rfl) rfl #[.pointer (some ⟨b, 0, none⟩), .bool true] (by rfl) rfl rfl (by simp only [List.map_toArray, List.map_cons, List.map_nil]; rfl) ?_
        refine (unless_calls b X2 true s2 _ (by with_reducible repeat (first | exact HP2.out | apply PAt.al | apply PAt.dn | apply PAt.dr))).mono ?_
        rintro e w1 hU
        rw [show Pm.unl X2.e true s2 = .ok ((), s2) from rfl] at hU
        obtain ⟨rfl, hP, hC⟩ := hU
        have HP3 := Aside0.mk hP
        have HC3 := Aside0.mk hC
        clear hP hC
        refine Or.inl ⟨_, rfl, ?_⟩
        refine hK.out _ _ ((HP3.out.cP.2.2.2.2.2.1.trans (congrArg some (HX2.out.2.2.1.trans HtT.out.1)))) (fun hHeld => ?_)
        clear hK K
        refine norm_ (a' := ?_) ?_ ?_
        rotate_left
        ·show Act.put _ (some 40) _ = _
         simp only [Act.put, List.setIfInBounds_toArray, List.set_cons_zero, List.set_cons_succ, i64_w, i32_w]
         rfl
        refine done_ (by kernel_rfl) ?_
        all_goals
         have hxe : X.e = X2.e := HX2.out.2.1.symm
         have hr3 := HR2.out
         rw [show pk2 = X2.pk from HPk2.out.symm, hxe] at hr3
         have HR := Aside0.mk hr3
         have HF3 := Aside0.mk (FInv.b HF2.out HC3.out)
         have HCs3 := Aside0.mk (HCs2.out.trans (Ch.sm HC3.out))
         have HXl2 := Aside0.mk (XLike.trans HXl.out HX2.out)
         clear hxe hr3 HP HC HR2 HP2 HF2 HCs2 HCs HM HC3
         go_wp2
         go_roundg k1
         case measure => omega
         case rel => exact ⟨X2, _, _, HXl2, HR, HP3, HF3, HCs3⟩
      ·have HIn := Aside0.mk hin
       clear hin
       have hr3 := HR.out
       obtain ⟨x, hU⟩ := unl_false X.e s'
       rw [Pm.topsC_no HIn.out, bo_assoc, hU] at hr3
       obtain rfl := Option.some.inj (show some (Except.error x) = some r from hr3)
       have HU := Aside0.mk hU
       clear hr3 hU HR
       go_wp2
       refine start_ (n := 17) (S := fun w' => w'.cell? ⟨b, 9, none⟩ = some (.slice (some ⟨gT, 0, none⟩) 7 7)) (ds := []) #[false, false, false, false, false, false, false, false, false, false, false, false, false, false, false, false, false] (by kernel_rfl) rfl rfl ((by simpa using (HP.out.cP.2.2.2.2.2.1.trans (congrArg some HtT.out.1)))) (fun hHeld => ?_)
       refine pure_ (i := 0) (N := some 24) (v := ?_) (a' := ?_) #[true, false, false, false, false, false, false, false, false, false, false, false, false, false, false, false, false] rfl rfl (by kernel_rfl) (fun _ _ _ h => h) (Or.inl ⟨by rfl, ?_⟩) ?_ ?_
       rotate_left
       ·intro w'
        go_simp
        with_reducible rfl
       rotate_left
       ·simp only [Act.put, List.setIfInBounds_toArray, List.set_cons_zero, List.set_cons_succ, i64_w, i32_w]
        rfl
       refine pure_ (i := 1) (N := some 25) (v := ?_) (a' := ?_) #[true, true, false, false, false, false, false, false, false, false, false, false, false, false, false, false, false] rfl rfl (by kernel_rfl) (fun _ _ _ h => h) (Or.inl ⟨by rfl, ?_⟩) ?_ ?_
       rotate_left
       ·intro w'
        go_simp
        with_reducible rfl
       rotate_left
       ·simp only [Act.put, List.setIfInBounds_toArray, List.set_cons_zero, List.set_cons_succ, i64_w, i32_w]
        rfl
       refine one_ (i := 2) (N := some 26) #[true, true, true, false, false, false, false, false, false, false, false, false, false, false, false, false, false] rfl rfl (by kernel_rfl) (by decide) (fun K hK => ?_)
       refine goesP_ Tryd.func58 (by kernel_rfl) rfl #[.pointer (some ⟨b, 0, none⟩)] (by rfl) rfl rfl (by simp only [List.map_toArray, List.map_cons, List.map_nil]; rfl) ?_
       refine (now_calls b X s' _ HP.out.fr).mono ?_; rintro e w1 ⟨rfl, hb⟩; have n0_ := Aside0.mk (PAt.below HP.out.fr hb); have n1_ := Aside0.mk (Ch.then_below HC.out.fr hb); clear HP HC hb; have HP := n0_; have HC := n1_; clear n0_ n1_
       refine Or.inl ⟨_, rfl, ?_⟩
       refine hK.out _ _ ((HP.out.cP.2.2.2.2.2.1.trans (congrArg some HtT.out.1))) (fun hHeld => ?_)
       clear hK K
       refine norm_ (a' := ?_) ?_ ?_
       rotate_left
       ·show Act.put _ (some 26) _ = _
        simp only [Act.put, List.setIfInBounds_toArray, List.set_cons_zero, List.set_cons_succ, i64_w, i32_w]
        rfl
       refine pure_ (i := 3) (N := some 27) (v := ?_) (a' := ?_) #[true, true, true, true, false, false, false, false, false, false, false, false, false, false, false, false, false] rfl rfl (by kernel_rfl) (fun _ _ _ h => h) (Or.inl ⟨by rfl, ?_⟩) ?_ ?_
       rotate_left
       ·intro w'
        go_simp
        with_reducible rfl
       rotate_left
       ·simp only [Act.put, List.setIfInBounds_toArray, List.set_cons_zero, List.set_cons_succ, i64_w, i32_w]
        rfl
       refine pure_ (i := 4) (N := some 28) (v := ?_) (a' := ?_) #[true, true, true, true, true, false, false, false, false, false, false, false, false, false, false, false, false] rfl rfl (by kernel_rfl) (fun _ _ _ h => h) (Or.inl ⟨by rfl, ?_⟩) ?_ ?_
       rotate_left
       ·intro w'
        go_simp
        with_reducible rfl
       rotate_left
       ·simp only [Act.put, List.setIfInBounds_toArray, List.set_cons_zero, List.set_cons_succ, i64_w, i32_w]
        rfl
       refine pure_ (i := 5) (N := some 29) (v := ?_) (a' := ?_) #[true, true, true, true, true, true, false, false, false, false, false, false, false, false, false, false, false] rfl rfl (by kernel_rfl) (fun _ _ _ h => h) (Or.inl ⟨by rfl, ?_⟩) ?_ ?_
       rotate_left
       ·intro w'
        go_simp
        with_reducible rfl
       rotate_left
       ·simp only [Act.put, List.setIfInBounds_toArray, List.set_cons_zero, List.set_cons_succ, i64_w, i32_w]
        rfl
       refine pure_ (i := 6) (N := some 30) (v := ?_) (a' := ?_) #[true, true, true, true, true, true, true, false, false, false, false, false, false, false, false, false, false] rfl rfl (by kernel_rfl) (fun _ _ _ h => h) (Or.inl ⟨by rfl, ?_⟩) ?_ ?_
       rotate_left
       ·intro w'
        go_simp
        with_reducible rfl
       rotate_left
       ·simp only [Act.put, List.setIfInBounds_toArray, List.set_cons_zero, List.set_cons_succ, i64_w, i32_w]
        rfl
       refine pure_ (i := 7) (N := some 31) (v := ?_) (a' := ?_) #[true, true, true, true, true, true, true, true, false, false, false, false, false, false, false, false, false] rfl rfl (by kernel_rfl) (fun _ _ _ h => h) (Or.inl ⟨by rfl, ?_⟩) ?_ ?_
       rotate_left
       ·intro w'
        go_simp
        with_reducible rfl
       rotate_left
       ·simp only [Act.put, List.setIfInBounds_toArray, List.set_cons_zero, List.set_cons_succ, i64_w, i32_w]
        rfl
       refine pure_ (i := 8) (N := some 32) (v := ?_) (a' := ?_) #[true, true, true, true, true, true, true, true, true, false, false, false, false, false, false, false, false] rfl rfl (by kernel_rfl) (fun _ _ _ h => h) (Or.inl ⟨by rfl, ?_⟩) ?_ ?_
       rotate_left
       ·intro w'
        go_simp
        with_reducible rfl
       rotate_left
       ·simp only [Act.put, List.setIfInBounds_toArray, List.set_cons_zero, List.set_cons_succ, i64_w, i32_w]
        rfl
       refine pure_ (i := 9) (N := some 33) (v := ?_) (a' := ?_) #[true, true, true, true, true, true, true, true, true, true, false, false, false, false, false, false, false] rfl rfl (by kernel_rfl) (fun _ _ _ h => h) (Or.inl ⟨by rfl, ?_⟩) ?_ ?_
       rotate_left
       ·intro w'
        go_simp
        with_reducible rfl
       rotate_left
       ·simp only [Act.put, List.setIfInBounds_toArray, List.set_cons_zero, List.set_cons_succ, i64_w, i32_w]
        rfl
       refine pure_ (i := 11) (N := some 35) (v := ?_) (a' := ?_) #[true, true, true, true, true, true, true, true, true, true, false, true, false, false, false, false, false] rfl rfl (by kernel_rfl) (fun _ _ _ h => h) (Or.inl ⟨by rfl, ?_⟩) ?_ ?_
       rotate_left
       ·intro w'
        go_simp
        with_reducible rfl
       rotate_left
       ·simp only [Act.put, List.setIfInBounds_toArray, List.set_cons_zero, List.set_cons_succ, i64_w, i32_w]
        rfl
       refine pure_ (i := 12) (N := some 36) (v := ?_) (a' := ?_) #[true, true, true, true, true, true, true, true, true, true, false, true, true, false, false, false, false] rfl rfl (by kernel_rfl) (fun _ _ _ h => h) (Or.inl ⟨by rfl, ?_⟩) ?_ ?_
       rotate_left
       ·intro w'
        go_simp
        with_reducible rfl
       rotate_left
       ·simp only [Act.put, List.setIfInBounds_toArray, List.set_cons_zero, List.set_cons_succ, i64_w, i32_w]
        rfl
       refine pure_ (i := 13) (N := some 37) (v := ?_) (a' := ?_) #[true, true, true, true, true, true, true, true, true, true, false, true, true, true, false, false, false] rfl rfl (by kernel_rfl) (fun _ _ _ h => h) (Or.inl ⟨by rfl, ?_⟩) ?_ ?_
       rotate_left
       ·intro w'
        go_simp
        with_reducible rfl
       rotate_left
       ·simp only [Act.put, List.setIfInBounds_toArray, List.set_cons_zero, List.set_cons_succ, i64_w, i32_w]
        rfl
       refine take_ (i := 10) (N := some 34) (v := ?_) (a' := ?_) #[true, true, true, true, true, true, true, true, true, true, true, true, true, true, false, false, false] rfl rfl (by kernel_rfl) (fun _ _ _ h => h) (Or.inl ⟨by rfl, ?_⟩) hHeld ?_ ?_
       rotate_left
       ·intro w' s0
        go_simp
        with_reducible rfl
       rotate_left
       ·simp only [Act.put, List.setIfInBounds_toArray, List.set_cons_zero, List.set_cons_succ, i64_w, i32_w]
        rfl
       refine one_ (i := 14) (N := some 38) #[true, true, true, true, true, true, true, true, true, true, true, true, true, true, true, false, false] rfl rfl (by kernel_rfl) (by decide) (fun K hK => ?_)
       refine goesP_ Tryd.func59 (by kernel_rfl) rfl #[.pointer (some ⟨b, 0, none⟩), .slice (some ⟨gT, 0, none⟩) 7 7, .pointer (some ⟨b, 2, none⟩)] (by rfl) rfl rfl (by simp only [List.map_toArray, List.map_cons, List.map_nil]; rfl) ?_
       refine (startedT_no b gT X s' _ HIn.out _ HP.out.fr (HtT.out.ch HC.out.fr HtT.out.2.1)).mono ?_
       rintro e w1 ⟨rfl, hP, hC⟩
       have n0_ := Aside0.mk hP
       have n1_ := Aside0.mk (Ch.trans HC.out.fr hC)
       clear HP HC hP hC
       have HP := n0_
       have HC := n1_
       clear n0_ n1_
       refine Or.inl ⟨_, rfl, ?_⟩
       refine hK.out _ _ ((HP.out.cP.2.2.2.2.2.1.trans (congrArg some HtT.out.1))) (fun hHeld => ?_)
       clear hK K
       refine norm_ (a' := ?_) ?_ ?_
       rotate_left
       ·show Act.put _ (some 38) _ = _
        simp only [Act.put, List.setIfInBounds_toArray, List.set_cons_zero, List.set_cons_succ, i64_w, i32_w]
        rfl
       refine pure_ (i := 15) (N := some 39) (v := ?_) (a' := ?_) #[true, true, true, true, true, true, true, true, true, true, true, true, true, true, true, true, false] rfl rfl (by kernel_rfl) (fun _ _ _ h => h) (Or.inl ⟨by rfl, ?_⟩) ?_ ?_
       rotate_left
       ·intro w'
        go_simp
        with_reducible rfl
       rotate_left
       ·simp only [Act.put, List.setIfInBounds_toArray, List.set_cons_zero, List.set_cons_succ, i64_w, i32_w]
        rfl
       refine one_ (i := 16) (N := some 40) #[true, true, true, true, true, true, true, true, true, true, true, true, true, true, true, true, true] rfl rfl (by kernel_rfl) (by decide) (fun K hK => ?_)
       refine goesP_ Tryd.func52 (by kernel_rfl) rfl #[.pointer (some ⟨b, 0, none⟩), .bool false] (by rfl) rfl rfl (by simp only [List.map_toArray, List.map_cons, List.map_nil]; rfl) ?_
       refine (unless_calls b X false s' _ HP.out.fr).mono ?_
       rintro e w1 hU
       rw [HU.out] at hU
       obtain ⟨rfl, hC⟩ := hU
       exact Or.inr ⟨_, rfl, rfl, rfl, HCs.out.trans (Ch.sm (Ch.trans HC.out.fr hC))⟩
     ·have hr3 := HR.out
      obtain ⟨x, hU⟩ := unl_false X.e s'
      rw [if_neg kd, hU] at hr3
      obtain rfl := Option.some.inj (show some (Except.error x) = some r from hr3)
      have HU := Aside0.mk hU
      have kb : ((Pm.now X.e s').f0 == 1) = false := beq_eq_false_iff_ne.mpr kd
      clear hr3 hU HR kd
      go_wp2
      refine start_ (n := 17) (S := fun w' => True) (ds := []) #[false, false, false, false, false, false, false, false, false, false, false, false, false, false, false, false, false] (by kernel_rfl) rfl rfl trivial (fun hHeld => ?_)
      refine pure_ (i := 0) (N := some 24) (v := ?_) (a' := ?_) #[true, false, false, false, false, false, false, false, false, false, false, false, false, false, false, false, false] rfl rfl (by kernel_rfl) (fun _ _ _ h => h) (Or.inl ⟨by rfl, ?_⟩) ?_ ?_
      rotate_left
      ·intro w'
       go_simp
       with_reducible rfl
      rotate_left
      ·simp only [Act.put, List.setIfInBounds_toArray, List.set_cons_zero, List.set_cons_succ, i64_w, i32_w]
       rfl
      refine pure_ (i := 1) (N := some 25) (v := ?_) (a' := ?_) #[true, true, false, false, false, false, false, false, false, false, false, false, false, false, false, false, false] rfl rfl (by kernel_rfl) (fun _ _ _ h => h) (Or.inl ⟨by rfl, ?_⟩) ?_ ?_
      rotate_left
      ·intro w'
       go_simp
       with_reducible rfl
      rotate_left
      ·simp only [Act.put, List.setIfInBounds_toArray, List.set_cons_zero, List.set_cons_succ, i64_w, i32_w]
       rfl
      refine one_ (i := 2) (N := some 26) #[true, true, true, false, false, false, false, false, false, false, false, false, false, false, false, false, false] rfl rfl (by kernel_rfl) (by decide) (fun K hK => ?_)
      refine goesP_ Tryd.func58 (by kernel_rfl) rfl #[.pointer (some ⟨b, 0, none⟩)] (by rfl) rfl rfl (by simp only [List.map_toArray, List.map_cons, List.map_nil]; rfl) ?_
      refine (now_calls b X s' _ HP.out.fr).mono ?_; rintro e w1 ⟨rfl, hb⟩; have n0_ := Aside0.mk (PAt.below HP.out.fr hb); have n1_ := Aside0.mk (Ch.then_below HC.out.fr hb); clear HP HC hb; have HP := n0_; have HC := n1_; clear n0_ n1_
      refine Or.inl ⟨_, rfl, ?_⟩
      refine hK.out _ _ trivial (fun hHeld => ?_)
      clear hK K
      refine norm_ (a' := ?_) ?_ ?_
      rotate_left
      ·show Act.put _ (some 26) _ = _
       simp only [Act.put, List.setIfInBounds_toArray, List.set_cons_zero, List.set_cons_succ, i64_w, i32_w]
       rfl
      refine pure_ (i := 3) (N := some 27) (v := ?_) (a' := ?_) #[true, true, true, true, false, false, false, false, false, false, false, false, false, false, false, false, false] rfl rfl (by kernel_rfl) (fun _ _ _ h => h) (Or.inl ⟨by rfl, ?_⟩) ?_ ?_
      rotate_left
      ·intro w'
       go_simp
       with_reducible rfl
      rotate_left
      ·simp only [Act.put, List.setIfInBounds_toArray, List.set_cons_zero, List.set_cons_succ, i64_w, i32_w]
       rfl
      refine pure_ (i := 4) (N := some 28) (v := ?_) (a' := ?_) #[true, true, true, true, true, false, false, false, false, false, false, false, false, false, false, false, false] rfl rfl (by kernel_rfl) (fun _ _ _ h => h) (Or.inl ⟨by rfl, ?_⟩) ?_ ?_
      rotate_left
      ·intro w'
       go_simp
       with_reducible rfl
      rotate_left
      ·simp only [Act.put, List.setIfInBounds_toArray, List.set_cons_zero, List.set_cons_succ, i64_w, i32_w]
       rfl
      refine pure_ (i := 5) (N := some 29) (v := ?_) (a' := ?_) #[true, true, true, true, true, true, false, false, false, false, false, false, false, false, false, false, false] rfl rfl (by kernel_rfl) (fun _ _ _ h => h) (Or.inl ⟨by rfl, ?_⟩) ?_ ?_
      rotate_left
      ·intro w'
       go_simp
       with_reducible rfl
      rotate_left
      ·simp only [Act.put, List.setIfInBounds_toArray, List.set_cons_zero, List.set_cons_succ, i64_w, i32_w]
       rfl
      refine pure_ (i := 6) (N := some 30) (v := undef) (a' := ?_) #[true, true, true, true, true, true, true, false, false, false, false, false, false, false, false, false, false] rfl rfl (by kernel_rfl) (fun _ _ _ h => h) (Or.inr ⟨by rfl, rfl⟩) ?_ ?_
      rotate_left
      ·simp only [Act.put, List.setIfInBounds_toArray, List.set_cons_zero, List.set_cons_succ, i64_w, i32_w]
       rfl
      refine pure_ (i := 7) (N := some 31) (v := undef) (a' := ?_) #[true, true, true, true, true, true, true, true, false, false, false, false, false, false, false, false, false] rfl rfl (by kernel_rfl) (fun _ _ _ h => h) (Or.inr ⟨by rfl, rfl⟩) ?_ ?_
      rotate_left
      ·simp only [Act.put, List.setIfInBounds_toArray, List.set_cons_zero, List.set_cons_succ, i64_w, i32_w]
       rfl
      refine pure_ (i := 8) (N := some 32) (v := undef) (a' := ?_) #[true, true, true, true, true, true, true, true, true, false, false, false, false, false, false, false, false] rfl rfl (by kernel_rfl) (fun _ _ _ h => h) (Or.inr ⟨by rfl, rfl⟩) ?_ ?_
      rotate_left
      ·simp only [Act.put, List.setIfInBounds_toArray, List.set_cons_zero, List.set_cons_succ, i64_w, i32_w]
       rfl
      refine pure_ (i := 9) (N := some 33) (v := undef) (a' := ?_) #[true, true, true, true, true, true, true, true, true, true, false, false, false, false, false, false, false] rfl rfl (by kernel_rfl) (fun _ _ _ h => h) (Or.inr ⟨by rfl, rfl⟩) ?_ ?_
      rotate_left
      ·simp only [Act.put, List.setIfInBounds_toArray, List.set_cons_zero, List.set_cons_succ, i64_w, i32_w]
       rfl
      refine pure_ (i := 10) (N := some 34) (v := undef) (a' := ?_) #[true, true, true, true, true, true, true, true, true, true, true, false, false, false, false, false, false] rfl rfl (by kernel_rfl) (fun _ _ _ h => h) (Or.inr ⟨by rfl, rfl⟩) ?_ ?_
      rotate_left
      ·simp only [Act.put, List.setIfInBounds_toArray, List.set_cons_zero, List.set_cons_succ, i64_w, i32_w]
       rfl
      refine pure_ (i := 11) (N := some 35) (v := undef) (a' := ?_) #[true, true, true, true, true, true, true, true, true, true, true, true, false, false, false, false, false] rfl rfl (by kernel_rfl) (fun _ _ _ h => h) (Or.inr ⟨by rfl, rfl⟩) ?_ ?_
      rotate_left
      ·simp only [Act.put, List.setIfInBounds_toArray, List.set_cons_zero, List.set_cons_succ, i64_w, i32_w]
       rfl
      refine pure_ (i := 12) (N := some 36) (v := undef) (a' := ?_) #[true, true, true, true, true, true, true, true, true, true, true, true, true, false, false, false, false] rfl rfl (by kernel_rfl) (fun _ _ _ h => h) (Or.inr ⟨by rfl, rfl⟩) ?_ ?_
      rotate_left
      ·simp only [Act.put, List.setIfInBounds_toArray, List.set_cons_zero, List.set_cons_succ, i64_w, i32_w]
       rfl
      refine pure_ (i := 13) (N := some 37) (v := undef) (a' := ?_) #[true, true, true, true, true, true, true, true, true, true, true, true, true, true, false, false, false] rfl rfl (by kernel_rfl) (fun _ _ _ h => h) (Or.inr ⟨by rfl, rfl⟩) ?_ ?_
      rotate_left
      ·simp only [Act.put, List.setIfInBounds_toArray, List.set_cons_zero, List.set_cons_succ, i64_w, i32_w]
       rfl
      refine pure_ (i := 14) (N := some 38) (v := undef) (a' := ?_) #[true, true, true, true, true, true, true, true, true, true, true, true, true, true, true, false, false] rfl rfl (by kernel_rfl) (fun _ _ _ h => h) (Or.inr ⟨by rfl, rfl⟩) ?_ ?_
      rotate_left
      ·simp only [Act.put, List.setIfInBounds_toArray, List.set_cons_zero, List.set_cons_succ, i64_w, i32_w]
       rfl
      refine pure_ (i := 15) (N := some 39) (v := ?_) (a' := ?_) #[true, true, true, true, true, true, true, true, true, true, true, true, true, true, true, true, false] rfl rfl (by kernel_rfl) (fun _ _ _ h => h) (Or.inl ⟨by rfl, ?_⟩) ?_ ?_
      rotate_left
      ·intro w'
       go_simp
       with_reducible rfl
      rotate_left
      ·simp only [Act.put, List.setIfInBounds_toArray, List.set_cons_zero, List.set_cons_succ, i64_w, i32_w]
       rfl
      refine one_ (i := 16) (N := some 40) #[true, true, true, true, true, true, true, true, true, true, true, true, true, true, true, true, true] rfl rfl (by kernel_rfl) (by decide) (fun K hK => ?_)
      refine goesP_ Tryd.func52 (by kernel_rfl) rfl #[.pointer (some ⟨b, 0, none⟩), .bool false] (by rfl) rfl rfl (by simp only [List.map_toArray, List.map_cons, List.map_nil]; rfl) ?_
      refine (unless_calls b X false s' _ HP.out.fr).mono ?_
      rintro e w1 hU
      rw [HU.out] at hU
      obtain ⟨rfl, hC⟩ := hU
      exact Or.inr ⟨_, rfl, rfl, rfl, HCs.out.trans (Ch.sm (Ch.trans HC.out.fr hC))⟩
end Go.Proofs.YtgkodenllfpajaaDoor.A
end
section
namespace Go.Proofs.YtgkodenllfpajaaDoor.A
open Go.RowKit Go.Proofs.YtgkodenllfpajaaDoorW.PrintWords Go.Proofs.YtgkodenllfpajaaDoorW.PrintLast Go.Proofs.YtgkodenllfpajaaDoorW.PrintMore
set_option linter.unusedVariables false
set_option linter.unusedSimpArgs false
set_option maxHeartbeats 8000000 in
set_option maxRecDepth 100000 in
theorem tops_calls (W : World) : Calls Tryd.prog 22 #[] W fun e w' => e = .returned (.slice (some ⟨W.heap.size, 0, none⟩) 7 7) ∧ w' = W.alloc (.cells tabT 83) := by
 go_enter Tryd.func22, Tryd.ntmps22
 go_wp2
 go_ret
 exact ⟨rfl, rfl⟩
set_option maxHeartbeats 8000000 in
set_option maxRecDepth 100000 in
theorem members_calls (W : World) : Calls Tryd.prog 23 #[] W fun e w' => e = .returned (.slice (some ⟨W.heap.size, 0, none⟩) 11 11) ∧ w' = W.alloc (.cells tabM 90) := by
 go_enter Tryd.func23, Tryd.ntmps23
 go_wp2
 go_ret
 exact ⟨rfl, rfl⟩
set_option maxHeartbeats 8000000 in
set_option maxRecDepth 100000 in
theorem values_calls (W : World) : Calls Tryd.prog 24 #[] W fun e w' => e = .returned (.slice (some ⟨W.heap.size, 0, none⟩) 2 2) ∧ w' = W.alloc (.cells tabE 98) := by
 go_enter Tryd.func24, Tryd.ntmps24
 go_wp2
 go_ret
 exact ⟨rfl, rfl⟩
set_option maxHeartbeats 8000000 in
set_option maxRecDepth 100000 in
theorem catch_stop (g0 g1 : Nat) (er at_ : Int) (u0 u1 u2 u3 v0 v1 v2 v3 : Value) (older : List PanicEntry) (w : World) (h0 : w.heap[g0]? = some (.cells #[u0, u1, u2, u3] 29 (0, 0))) (h1 : w.heap[g1]? = some (.cells #[v0, v1, v2, v3] 32 (0, 0))) (hne : g0 ≠ g1) :
  CallsD Tryd.prog 21 #[.pointer (some ⟨g0, 0, none⟩), .pointer (some ⟨g1, 0, none⟩)] (.panicking ({ v := .iface 60 (.agg #[.int .i64 er, .int .i64 at_]), recovered := false } :: older)) w fun e u' w' =>
   e = .returned (.tuple #[]) ∧ u' = .panicking ({ v := .iface 60 (.agg #[.int .i64 er, .int .i64 at_]), recovered := true } :: older) ∧ Ch (fun k => k = g0 ∨ k = g1) w w' ∧
    w'.heap[g0]? = some (.cells #[.string ⟨#[]⟩, .slice none 0 0, .slice none 0 0, .slice none 0 0] 29 (0, 0)) ∧ w'.heap[g1]? = some (.cells #[.int .i64 er, .int .i64 0, .int .i64 at_, .string ⟨#[]⟩] 32 (0, 0)) := by
 obtain ⟨p1, pf, plt⟩ := pcell h0
 obtain ⟨q1, qf, qlt⟩ := pcell h1
 have a0 : w.cell? ⟨g0, 0, none⟩ = some u0 := p1 0 _ rfl
 have a1 : w.cell? ⟨g0, 1, none⟩ = some u1 := p1 1 _ rfl
 have a2 : w.cell? ⟨g0, 2, none⟩ = some u2 := p1 2 _ rfl
 have a3 : w.cell? ⟨g0, 3, none⟩ = some u3 := p1 3 _ rfl
 have b0 : w.cell? ⟨g1, 0, none⟩ = some v0 := q1 0 _ rfl
 have b1 : w.cell? ⟨g1, 1, none⟩ = some v1 := q1 1 _ rfl
 have b2 : w.cell? ⟨g1, 2, none⟩ = some v2 := q1 2 _ rfl
 have b3 : w.cell? ⟨g1, 3, none⟩ = some v3 := q1 3 _ rfl
 have c0 := pf 0
 have c1 := pf 1
 have c2 := pf 2
 have c3 := pf 3
 have d0 := qf 0
 have d1 := qf 1
 have d2 := qf 2
 have d3 := qf 3
 have hne2 := hne.symm
 have H0 := Aside0.mk h0
 have H1 := Aside0.mk h1
 clear p1 q1 pf qf h0 h1
 refine callsD_of_wpS Tryd.func21 rfl fun c₀ cs hu => ?_
 apply wpS_seq
 apply wpS_region
 simp [wpOpsS, go_sem, recoverD, hu, Tryd.ntmps21, Exit.thenS]
 refine wpS_of_wp ?_
 rw [show (#[Value.pointer (some ⟨g0, 0, none⟩), Value.pointer (some ⟨g1, 0, none⟩)] ++ (Array.replicate 15 undef).setIfInBounds 3 (Value.iface 60 (.agg #[.int .i64 er, .int .i64 at_])) : Array Value) = #[Value.pointer (some ⟨g0, 0, none⟩), Value.pointer (some ⟨g1, 0, none⟩), undef, undef, undef, Value.iface 60 (.agg #[.int .i64 er, .int .i64 at_]), undef, undef, undef, undef, undef, undef, undef, undef, undef, undef, undef] from rfl]
 have hta : ∀ (v : Value) (w : World), (Instr.typeAssert (.iface 60 v) 20 60 true).run Tryd.prog w = .ok (.tuple #[v, .bool true]) w := fun v w => by kernel_rfl
 have hx0 : ∀ (u v : Value) (w : World), (Instr.extract (.tuple #[u, v]) 0).run Tryd.prog w = .ok u w := fun u v w => by kernel_rfl
 have hx1 : ∀ (u v : Value) (w : World), (Instr.extract (.tuple #[u, v]) 1).run Tryd.prog w = .ok v w := fun u v w => by kernel_rfl
 go_wp2
 obtain ⟨w0, hw0⟩ : ∃ w0, w0 = w.alloc (.cells #[.int .i64 er, .int .i64 at_] 60) := ⟨_, rfl⟩
 obtain ⟨gb, hgb⟩ : ∃ gb, gb = w.heap.size := ⟨_, rfl⟩
 have HCw := Aside0.mk (show Ch (fun k => k = g0 ∨ k = g1) w w0 by rw [hw0]; exact Ch.alloc (Ch.refl _ w) _)
 have K0 := bx_al H0.out (.cells #[.int .i64 er, .int .i64 at_] 60)
 have K1 := bx_al H1.out (.cells #[.int .i64 er, .int .i64 at_] 60)
 have K2 := blk_new w (.cells #[.int .i64 er, .int .i64 at_] 60)
 have e0 : g0 ≠ gb := by rw [hgb]; exact Nat.ne_of_lt plt
 have e1 : g1 ≠ gb := by rw [hgb]; exact Nat.ne_of_lt qlt
 have e2 := e0.symm
 have e3 := e1.symm
 rw [← hw0] at K0 K1 K2 ⊢
 rw [← hgb] at K2 ⊢
 clear a0 a1 a2 a3 b0 b1 b2 b3 c0 c1 c2 c3 d0 d1 d2 d3 plt qlt hw0 hgb H0 H1
 obtain ⟨p1, pf, plt⟩ := pcell K0
 obtain ⟨q1, qf, qlt⟩ := pcell K1
 obtain ⟨r1, rf, rlt⟩ := pcell K2
 have a0 : w0.cell? ⟨g0, 0, none⟩ = some u0 := p1 0 _ rfl
 have a1 : w0.cell? ⟨g0, 1, none⟩ = some u1 := p1 1 _ rfl
 have a2 : w0.cell? ⟨g0, 2, none⟩ = some u2 := p1 2 _ rfl
 have a3 : w0.cell? ⟨g0, 3, none⟩ = some u3 := p1 3 _ rfl
 have b0 : w0.cell? ⟨g1, 0, none⟩ = some v0 := q1 0 _ rfl
 have b1 : w0.cell? ⟨g1, 1, none⟩ = some v1 := q1 1 _ rfl
 have b2 : w0.cell? ⟨g1, 2, none⟩ = some v2 := q1 2 _ rfl
 have b3 : w0.cell? ⟨g1, 3, none⟩ = some v3 := q1 3 _ rfl
 have s0 : w0.cell? ⟨gb, 0, none⟩ = some (.int .i64 er) := r1 0 _ rfl
 have s1 : w0.cell? ⟨gb, 1, none⟩ = some (.int .i64 at_) := r1 1 _ rfl
 have c0 := pf 0
 have c1 := pf 1
 have c2 := pf 2
 have c3 := pf 3
 have d0 := qf 0
 have d1 := qf 1
 have d2 := qf 2
 have d3 := qf 3
 have H0 := Aside0.mk K0
 have H1 := Aside0.mk K1
 clear p1 q1 r1 pf qf rf K0 K1 K2
 go_region_held3 (fun w' => w'.cell? ⟨gb, 0, none⟩ = some (.int .i64 er) ∧ w'.cell? ⟨gb, 1, none⟩ = some (.int .i64 at_)) (go_keep) (fail)
 exact ⟨rfl, _, rfl, .tuple #[], by simp [results, Tryd.results21, go_sem], rfl, rfl, Ch.drew (Ch.set (Ch.set (Ch.set (Ch.set (Ch.set (Ch.set (Ch.set (Ch.set HCw.out (fun _ => Or.inl rfl) _) (fun _ => Or.inl rfl) _) (fun _ => Or.inl rfl) _) (fun _ => Or.inl rfl) _) (fun _ => Or.inr rfl) _) (fun _ => Or.inr rfl) _) (fun _ => Or.inr rfl) _) (fun _ => Or.inr rfl) _), Eq.trans (bx_dr (bx_st (bx_st (bx_st (bx_st (pset (pset (pset (pset H0.out 0 _) 1 _) 2 _) 3 _) hne2 _) hne2 _) hne2 _) hne2 _)) rfl, Eq.trans (bx_dr (pset (pset (pset (pset (bx_st (bx_st (bx_st (bx_st H1.out hne _) hne _) hne _) hne _) 0 _) 1 _) 2 _) 3 _)) rfl⟩
theorem catch_idle (g0 g1 : Nat) (w : World) :
  CallsD Tryd.prog 21 #[.pointer (some ⟨g0, 0, none⟩), .pointer (some ⟨g1, 0, none⟩)] .returning w fun e u' w' => e = .returned (.tuple #[]) ∧ u' = .returning ∧ w' = w := by
 refine callsD_of_wpS Tryd.func21 rfl fun c₀ cs hu => ?_
 apply wpS_seq
 apply wpS_region
 simp [wpOpsS, go_sem, recoverD, hu, Tryd.ntmps21, Exit.thenS]
 refine wpS_of_wp ?_
 rw [show (#[Value.pointer (some ⟨g0, 0, none⟩), Value.pointer (some ⟨g1, 0, none⟩)] ++ (Array.replicate 15 undef).setIfInBounds 3 Value.nilIface : Array Value) = #[Value.pointer (some ⟨g0, 0, none⟩), Value.pointer (some ⟨g1, 0, none⟩), undef, undef, undef, Value.nilIface, undef, undef, undef, undef, undef, undef, undef, undef, undef, undef, undef] from rfl]
 go_wp2
 cases c₀
 simp only at hu
 subst hu
 exact ⟨rfl, _, rfl, .tuple #[], by simp [results, Tryd.results21, go_sem], rfl, rfl, rfl⟩
theorem Ch.new2 {W w8 w9 : World} {g0 : Nat} (h : Ch (fun _ => False) W w8) (hc : Ch (fun k => k = g0 ∨ k = g0 + 1) w8 w9) (hg : W.heap.size ≤ g0) : Ch (fun _ => False) W w9 :=
 ⟨hc.os.trans h.os, hc.tape.trans h.tape, hc.output.trans h.output, Nat.le_trans h.size hc.size, fun i hi _ => (hc.block i (Nat.lt_of_lt_of_le hi h.size) (fun h => h.elim (fun e => by omega) (fun e => by omega))).trans (h.block i hi (fun h => h))⟩
def PostTok (W : World) (r : PFile × Int × Int) (e : Ending) (w' : World) : Prop :=
 ∃ v1 v2 v3, e = .returned (.tuple #[.agg #[.string r.1.f0, v1, v2, v3], .agg #[.int .i64 r.2.1, .int .i64 0, .int .i64 r.2.2, .string ⟨#[]⟩]]) ∧
  Kd.string.R 9 w' W.heap.size (fun _ => True) v1 r.1.f1 ∧ k48.R 48 w' W.heap.size (fun _ => True) v2 r.1.f2 ∧ k77.R 77 w' W.heap.size (fun _ => True) v3 r.1.f3 ∧ Ch (fun _ => False) W w'
set_option maxHeartbeats 8000000 in
set_option maxRecDepth 100000 in
theorem tokens_calls (k : Nat) (l : List PTok) (r : PFile × Int × Int) (hr : Pm.tokens2 k l = some r) (W : World) (hL : LaidW W) (A : Option Addr) (c : Nat) (hc : l.length ≤ c) (hF : k42.F W (fun k => k < W.heap.size) A l.length l) :
  Calls Tryd.prog 12 #[.slice A l.length c] W (PostTok W r) := by
 have hmf : ∀ (fn : Fn) (first cap : Array Value) (w : World), (Instr.makeFunc fn first cap).run Tryd.prog w = .ok (.func fn first cap) w := fun _ _ _ _ => rfl
 have HF := Aside0.mk hF
 have HL := Aside0.mk hL
 have HCc := Aside0.mk hc
 unfold Pm.tokens2 at hr
 by_cases big : (l.length : Int) > 16384
 ·rw [if_pos big] at hr
  obtain rfl := Option.some.inj hr
  have hb : decide ((16384 : Int) < (l.length : Int)) = true := decide_eq_true big
  clear hr big hF hL hc
  go_enter_defers Tryd.func12, Tryd.ntmps12
  go_wp2
  exact ⟨.tuple #[.agg #[.string ⟨#[]⟩, .slice none 0 0, .slice none 0 0, .slice none 0 0], .agg #[.int .i64 2, .int .i64 0, .int .i64 0, .string ⟨#[]⟩]], by simp [results, Tryd.results12, go_sem], .slice none 0 0, .slice none 0 0, .slice none 0 0, rfl, Kd.R_nil _ _ _ _ _, Kd.R_nil _ _ _ _ _, Kd.R_nil _ _ _ _ _, Ch.alloc (Ch.alloc (Ch.refl _ W) _) _⟩
 ·rw [if_neg big] at hr
  have HR := Aside0.mk hr
  have HBig := Aside0.mk (show l.length ≤ 16384 by omega)
  obtain ⟨n, hn⟩ : ∃ n, n = l.length := ⟨_, rfl⟩
  have hb : decide ((16384 : Int) < (n : Int)) = false := decide_eq_false (by omega)
  rw [← hn]
  clear hr big hF hL hc
  go_enter_defers Tryd.func12, Tryd.ntmps12
  obtain ⟨g0, hg0⟩ : ∃ g, g = W.heap.size := ⟨_, rfl⟩
  obtain ⟨w6, hw6⟩ : ∃ w6, w6 = (((((W.alloc (.cells #[.string ⟨#[]⟩, .slice none 0 0, .slice none 0 0, .slice none 0 0] 29)).alloc (.cells #[.int .i64 0, .int .i64 0, .int .i64 0, .string ⟨#[]⟩] 32)).alloc (.cells tabT 83)).alloc (.cells tabM 90)).alloc (.cells tabE 98)).alloc (.cells #[.slice A n c, .int .i64 0, .string ⟨#[]⟩, .slice none 0 0, .slice none 0 0, .slice none 0 0, .bool false, .int .i64 0, .int .i64 0, .slice (some ⟨W.heap.size + 1 + 1, 0, none⟩) 7 7, .slice (some ⟨W.heap.size + 1 + 1 + 1, 0, none⟩) 11 11, .slice (some ⟨W.heap.size + 1 + 1 + 1 + 1, 0, none⟩) 2 2] 69) := ⟨_, rfl⟩
  have K0 := bx_al (bx_al (bx_al (bx_al (bx_al (blk_new W (.cells #[.string ⟨#[]⟩, .slice none 0 0, .slice none 0 0, .slice none 0 0] 29)) (.cells #[.int .i64 0, .int .i64 0, .int .i64 0, .string ⟨#[]⟩] 32)) (.cells tabT 83)) (.cells tabM 90)) (.cells tabE 98)) (.cells #[.slice A n c, .int .i64 0, .string ⟨#[]⟩, .slice none 0 0, .slice none 0 0, .slice none 0 0, .bool false, .int .i64 0, .int .i64 0, .slice (some ⟨W.heap.size + 1 + 1, 0, none⟩) 7 7, .slice (some ⟨W.heap.size + 1 + 1 + 1, 0, none⟩) 11 11, .slice (some ⟨W.heap.size + 1 + 1 + 1 + 1, 0, none⟩) 2 2] 69)
  have K1 := bx_al (bx_al (bx_al (bx_al (blk_new (W.alloc (.cells #[.string ⟨#[]⟩, .slice none 0 0, .slice none 0 0, .slice none 0 0] 29)) (.cells #[.int .i64 0, .int .i64 0, .int .i64 0, .string ⟨#[]⟩] 32)) (.cells tabT 83)) (.cells tabM 90)) (.cells tabE 98)) (.cells #[.slice A n c, .int .i64 0, .string ⟨#[]⟩, .slice none 0 0, .slice none 0 0, .slice none 0 0, .bool false, .int .i64 0, .int .i64 0, .slice (some ⟨W.heap.size + 1 + 1, 0, none⟩) 7 7, .slice (some ⟨W.heap.size + 1 + 1 + 1, 0, none⟩) 11 11, .slice (some ⟨W.heap.size + 1 + 1 + 1 + 1, 0, none⟩) 2 2] 69)
  have K2 := bx_al (bx_al (bx_al (blk_new ((W.alloc (.cells #[.string ⟨#[]⟩, .slice none 0 0, .slice none 0 0, .slice none 0 0] 29)).alloc (.cells #[.int .i64 0, .int .i64 0, .int .i64 0, .string ⟨#[]⟩] 32)) (.cells tabT 83)) (.cells tabM 90)) (.cells tabE 98)) (.cells #[.slice A n c, .int .i64 0, .string ⟨#[]⟩, .slice none 0 0, .slice none 0 0, .slice none 0 0, .bool false, .int .i64 0, .int .i64 0, .slice (some ⟨W.heap.size + 1 + 1, 0, none⟩) 7 7, .slice (some ⟨W.heap.size + 1 + 1 + 1, 0, none⟩) 11 11, .slice (some ⟨W.heap.size + 1 + 1 + 1 + 1, 0, none⟩) 2 2] 69)
  have K3 := bx_al (bx_al (blk_new (((W.alloc (.cells #[.string ⟨#[]⟩, .slice none 0 0, .slice none 0 0, .slice none 0 0] 29)).alloc (.cells #[.int .i64 0, .int .i64 0, .int .i64 0, .string ⟨#[]⟩] 32)).alloc (.cells tabT 83)) (.cells tabM 90)) (.cells tabE 98)) (.cells #[.slice A n c, .int .i64 0, .string ⟨#[]⟩, .slice none 0 0, .slice none 0 0, .slice none 0 0, .bool false, .int .i64 0, .int .i64 0, .slice (some ⟨W.heap.size + 1 + 1, 0, none⟩) 7 7, .slice (some ⟨W.heap.size + 1 + 1 + 1, 0, none⟩) 11 11, .slice (some ⟨W.heap.size + 1 + 1 + 1 + 1, 0, none⟩) 2 2] 69)
  have K4 := bx_al (blk_new ((((W.alloc (.cells #[.string ⟨#[]⟩, .slice none 0 0, .slice none 0 0, .slice none 0 0] 29)).alloc (.cells #[.int .i64 0, .int .i64 0, .int .i64 0, .string ⟨#[]⟩] 32)).alloc (.cells tabT 83)).alloc (.cells tabM 90)) (.cells tabE 98)) (.cells #[.slice A n c, .int .i64 0, .string ⟨#[]⟩, .slice none 0 0, .slice none 0 0, .slice none 0 0, .bool false, .int .i64 0, .int .i64 0, .slice (some ⟨W.heap.size + 1 + 1, 0, none⟩) 7 7, .slice (some ⟨W.heap.size + 1 + 1 + 1, 0, none⟩) 11 11, .slice (some ⟨W.heap.size + 1 + 1 + 1 + 1, 0, none⟩) 2 2] 69)
  have K5 := blk_new (((((W.alloc (.cells #[.string ⟨#[]⟩, .slice none 0 0, .slice none 0 0, .slice none 0 0] 29)).alloc (.cells #[.int .i64 0, .int .i64 0, .int .i64 0, .string ⟨#[]⟩] 32)).alloc (.cells tabT 83)).alloc (.cells tabM 90)).alloc (.cells tabE 98)) (.cells #[.slice A n c, .int .i64 0, .string ⟨#[]⟩, .slice none 0 0, .slice none 0 0, .slice none 0 0, .bool false, .int .i64 0, .int .i64 0, .slice (some ⟨W.heap.size + 1 + 1, 0, none⟩) 7 7, .slice (some ⟨W.heap.size + 1 + 1 + 1, 0, none⟩) 11 11, .slice (some ⟨W.heap.size + 1 + 1 + 1 + 1, 0, none⟩) 2 2] 69)
  rw [← hw6] at K0 K1 K2 K3 K4 K5
  have hch : Ch (fun _ => False) W w6 := by rw [hw6]; exact Ch.alloc (Ch.alloc (Ch.alloc (Ch.alloc (Ch.alloc (Ch.alloc (Ch.refl _ W) _) _) _) _) _) _
  have hsz : w6.heap.size = g0 + 6 := by rw [hw6, hg0]; simp
  simp only [World.size_alloc] at K1 K2 K3 K4 K5
  rw [← hg0] at K0 K1 K2 K3 K4 K5
  have HK0 := Aside0.mk K0
  have HK1 := Aside0.mk K1
  have HK2 := Aside0.mk K2
  have HK3 := Aside0.mk K3
  have HK4 := Aside0.mk K4
  have HK5 := Aside0.mk K5
  have HCh := Aside0.mk hch
  have HSz := Aside0.mk hsz
  have HN := Aside0.mk hn
  have HG0 := Aside0.mk hg0
  have HW6 := Aside0.mk hw6
  clear K0 K1 K2 K3 K4 K5 hch hsz hn hg0 hw6
  have h2 : 2 ≤ g0 := by
   obtain ⟨_, ⟨m_, hm_⟩⟩ := HL.out
   have := World.block_lt_of_cell? W ⟨1, 0, none⟩ hm_
   rw [HG0.out]
   exact this
  have H2 := Aside0.mk h2
  clear h2
  obtain ⟨r1, hr1, hr2⟩ := Option.bind_eq_some_iff.mp HR.out
  have HR1 := Aside0.mk hr1
  have HR2 := Aside0.mk hr2
  clear hr1 hr2 HR
  suffices hfile : ∀ (w7 : World) (P : Ending → World → Prop), PAt (g0 + 1 + 1 + 1 + 1 + 1) (⟨g0, Pm.endOf l, .string ⟨#[]⟩, .slice none 0 0, .slice none 0 0, .slice none 0 0, false, .slice (some ⟨g0 + 1 + 1, 0, none⟩) 7 7, .slice (some ⟨g0 + 1 + 1 + 1, 0, none⟩) 11 11, .slice (some ⟨g0 + 1 + 1 + 1 + 1, 0, none⟩) 2 2⟩ : PFix) w7 ⟨l, 0, 0⟩ → w7.heap[g0]? = some (.cells #[.string ⟨#[]⟩, .slice none 0 0, .slice none 0 0, .slice none 0 0] 29 (0, 0)) → w7.heap[g0 + 1]? = some (.cells #[.int .i64 0, .int .i64 0, .int .i64 0, .string ⟨#[]⟩] 32 (0, 0)) →
    w7.heap[g0 + 1 + 1]? = some (.cells tabT 83 (0, 0)) → w7.heap[g0 + 1 + 1 + 1]? = some (.cells tabM 90 (0, 0)) → w7.heap[g0 + 1 + 1 + 1 + 1]? = some (.cells tabE 98 (0, 0)) → Ch (fun _ => False) W w7 → w7.heap.size = g0 + 6 →
    (∀ (f : PFile) (w8 : World) (v0 v1 v2 v3 : Value), r = (f, 0, 0) → w8.cell? ⟨g0 + 1 + 1 + 1 + 1 + 1, 2, none⟩ = some (.string f.f0) → w8.cell? ⟨g0 + 1 + 1 + 1 + 1 + 1, 3, none⟩ = some v1 → w8.cell? ⟨g0 + 1 + 1 + 1 + 1 + 1, 4, none⟩ = some v2 → w8.cell? ⟨g0 + 1 + 1 + 1 + 1 + 1, 5, none⟩ = some v3 →
     (∃ A n c, v1 = .slice A n c) → (∃ A n c, v2 = .slice A n c) → (∃ A n c, v3 = .slice A n c) →
     w8.heap[g0]? = some (.cells #[.string ⟨#[]⟩, .slice none 0 0, .slice none 0 0, .slice none 0 0] 29 (0, 0)) → w8.heap[g0 + 1]? = some (.cells #[.int .i64 0, .int .i64 0, .int .i64 0, .string ⟨#[]⟩] 32 (0, 0)) → Ch (fun _ => False) W w8 → g0 + 6 ≤ w8.heap.size →
     (∀ w9, Ch (fun k => k = g0 ∨ k = g0 + 1) w8 w9 → Kd.string.R 9 w9 W.heap.size (fun _ => True) v1 f.f1 ∧ k48.R 48 w9 W.heap.size (fun _ => True) v2 f.f2 ∧ k77.R 77 w9 W.heap.size (fun _ => True) v3 f.f3) → P (.returned (.tuple #[])) w8) →
    (∀ (er at_ : Int) (w8 : World), r = (Pm.zfile, er, at_) → w8.heap[g0]? = some (.cells #[.string ⟨#[]⟩, .slice none 0 0, .slice none 0 0, .slice none 0 0] 29 (0, 0)) → w8.heap[g0 + 1]? = some (.cells #[.int .i64 0, .int .i64 0, .int .i64 0, .string ⟨#[]⟩] 32 (0, 0)) → Ch (fun _ => False) W w8 → g0 + 6 ≤ w8.heap.size → P (thrown er at_) w8) →
    Calls Tryd.prog 25 #[.pointer (some ⟨g0 + 1 + 1 + 1 + 1 + 1, 0, none⟩)] w7 P by
   cases n with
   | zero =>
    go_wp2_with (first
     | (go_at_call 22; refine (tops_calls _).mono ?_; rintro e w1 ⟨rfl, rfl⟩)
     | (go_at_call 23; refine (members_calls _).mono ?_; rintro e w1 ⟨rfl, rfl⟩)
     | (go_at_call 24; refine (values_calls _).mono ?_; rintro e w1 ⟨rfl, rfl⟩))
    rw [← HW6.out, ← HG0.out]
    have hl0 : l = [] := List.length_eq_zero_iff.mp HN.out.symm
    subst hl0
    refine hfile w6 _ ⟨A, c, HK5.out, HCc.out, Kd.F_step (by rw [HG0.out]; exact HF.out) (fun k hk hlt => HCh.out.block k hlt (fun h => h)), by show g0 ≤ _; omega, ⟨HBig.out, ⟨Int.le_refl 0, (by decide : (0 : Int) ≤ 4096)⟩, ⟨Int.le_refl 0, (by decide : (0 : Int) ≤ 32)⟩⟩, ⟨HL.out.ch HCh.out (fun h => h) (fun h => h), H2.out⟩⟩ HK0.out HK1.out HK2.out HK3.out HK4.out HCh.out HSz.out ?_ ?_
    ·intro f w8 v0 v1 v2 v3 hr q2 q3 q4 q5 h1 h2 h3 k0 k1 hch hsz hrows
     obtain ⟨A1, n1, c1, rfl⟩ := h1
     obtain ⟨A2, n2, c2, rfl⟩ := h2
     obtain ⟨A3, n3, c3, rfl⟩ := h3
     subst hr
     obtain ⟨p1, pf, plt⟩ := pcell k0
     obtain ⟨r1_, rf, rlt⟩ := pcell k1
     have a0 : w8.cell? ⟨g0, 0, none⟩ = some (.string ⟨#[]⟩) := p1 0 _ rfl
     have a1 : w8.cell? ⟨g0, 1, none⟩ = some (.slice none 0 0) := p1 1 _ rfl
     have a2 : w8.cell? ⟨g0, 2, none⟩ = some (.slice none 0 0) := p1 2 _ rfl
     have a3 : w8.cell? ⟨g0, 3, none⟩ = some (.slice none 0 0) := p1 3 _ rfl
     have b0 : w8.cell? ⟨g0 + 1, 0, none⟩ = some (.int .i64 0) := r1_ 0 _ rfl
     have b1 : w8.cell? ⟨g0 + 1, 1, none⟩ = some (.int .i64 0) := r1_ 1 _ rfl
     have b2 : w8.cell? ⟨g0 + 1, 2, none⟩ = some (.int .i64 0) := r1_ 2 _ rfl
     have b3 : w8.cell? ⟨g0 + 1, 3, none⟩ = some (.string ⟨#[]⟩) := r1_ 3 _ rfl
     have c0 := pf 0
     have c1_ := pf 1
     have c2_ := pf 2
     have c3_ := pf 3
     have d0 := rf 0
     have d1 := rf 1
     have d2 := rf 2
     have d3 := rf 3
     have hne : g0 ≠ g0 + 1 := by omega
     have hne2 : g0 + 1 ≠ g0 := by omega
     have HRows := Aside0.mk hrows
     have HCh8 := Aside0.mk hch
     have HSz8 := Aside0.mk hsz
     clear p1 pf r1_ rf k0 k1 hrows hch hsz
     go_wp2
     refine leaves_cons (f := 21) (args := #[.pointer (some ⟨g0, 0, none⟩), .pointer (some ⟨g0 + 1, 0, none⟩)]) (by simp) (by simp [go_sem]) ?_
     refine (catch_idle g0 (g0 + 1) _).mono ?_
     rintro e u' w'' ⟨rfl, rfl, rfl⟩
     show Leaves Tryd.prog _ _ _ [] FrameMode.returning _
     refine ⟨.tuple #[.agg #[.string f.f0, .slice A1 n1 c1, .slice A2 n2 c2, .slice A3 n3 c3], .agg #[.int .i64 0, .int .i64 0, .int .i64 0, .string ⟨#[]⟩]], by simp [results, Tryd.results12, go_sem, *], .slice A1 n1 c1, .slice A2 n2 c2, .slice A3 n3 c3, rfl, ?_, ?_, ?_, ?_⟩
     ·exact And.left (HRows.out _ (by exact (Ch.set (Ch.set (Ch.set (Ch.set (Ch.set (Ch.set (Ch.set (Ch.set (Ch.refl _ _) (fun _ => Or.inl rfl) _) (fun _ => Or.inl rfl) _) (fun _ => Or.inl rfl) _) (fun _ => Or.inl rfl) _) (fun _ => Or.inr rfl) _) (fun _ => Or.inr rfl) _) (fun _ => Or.inr rfl) _) (fun _ => Or.inr rfl) _)))
     ·exact And.left (And.right (HRows.out _ (by exact (Ch.set (Ch.set (Ch.set (Ch.set (Ch.set (Ch.set (Ch.set (Ch.set (Ch.refl _ _) (fun _ => Or.inl rfl) _) (fun _ => Or.inl rfl) _) (fun _ => Or.inl rfl) _) (fun _ => Or.inl rfl) _) (fun _ => Or.inr rfl) _) (fun _ => Or.inr rfl) _) (fun _ => Or.inr rfl) _) (fun _ => Or.inr rfl) _))))
     ·exact And.right (And.right (HRows.out _ (by exact (Ch.set (Ch.set (Ch.set (Ch.set (Ch.set (Ch.set (Ch.set (Ch.set (Ch.refl _ _) (fun _ => Or.inl rfl) _) (fun _ => Or.inl rfl) _) (fun _ => Or.inl rfl) _) (fun _ => Or.inl rfl) _) (fun _ => Or.inr rfl) _) (fun _ => Or.inr rfl) _) (fun _ => Or.inr rfl) _) (fun _ => Or.inr rfl) _))))
     ·exact Ch.new2 HCh8.out (by exact (Ch.set (Ch.set (Ch.set (Ch.set (Ch.set (Ch.set (Ch.set (Ch.set (Ch.refl _ _) (fun _ => Or.inl rfl) _) (fun _ => Or.inl rfl) _) (fun _ => Or.inl rfl) _) (fun _ => Or.inl rfl) _) (fun _ => Or.inr rfl) _) (fun _ => Or.inr rfl) _) (fun _ => Or.inr rfl) _) (fun _ => Or.inr rfl) _)) (by rw [← HG0.out]; exact Nat.le_refl _)
    ·intro er at_ w8 hr k0 k1 hch hsz
     subst hr
     refine leaves_cons (f := 21) (args := #[.pointer (some ⟨g0, 0, none⟩), .pointer (some ⟨g0 + 1, 0, none⟩)]) (by simp) (by simp [go_sem]) ?_
     refine (catch_stop g0 (g0 + 1) er at_ _ _ _ _ _ _ _ _ [] w8 k0 k1 (by omega)).mono ?_
     rintro e u' w9 ⟨rfl, rfl, hC9, q0, q1⟩
     obtain ⟨p1, pf, plt⟩ := pcell q0
     obtain ⟨r1_, rf, rlt⟩ := pcell q1
     have a0 : w9.cell? ⟨g0, 0, none⟩ = some (.string ⟨#[]⟩) := p1 0 _ rfl
     have a1 : w9.cell? ⟨g0, 1, none⟩ = some (.slice none 0 0) := p1 1 _ rfl
     have a2 : w9.cell? ⟨g0, 2, none⟩ = some (.slice none 0 0) := p1 2 _ rfl
     have a3 : w9.cell? ⟨g0, 3, none⟩ = some (.slice none 0 0) := p1 3 _ rfl
     have b0 : w9.cell? ⟨g0 + 1, 0, none⟩ = some (.int .i64 er) := r1_ 0 _ rfl
     have b1 : w9.cell? ⟨g0 + 1, 1, none⟩ = some (.int .i64 0) := r1_ 1 _ rfl
     have b2 : w9.cell? ⟨g0 + 1, 2, none⟩ = some (.int .i64 at_) := r1_ 2 _ rfl
     have b3 : w9.cell? ⟨g0 + 1, 3, none⟩ = some (.string ⟨#[]⟩) := r1_ 3 _ rfl
     show Leaves Tryd.prog _ _ _ [] FrameMode.returning w9
     refine ⟨.tuple #[.agg #[.string ⟨#[]⟩, .slice none 0 0, .slice none 0 0, .slice none 0 0], .agg #[.int .i64 er, .int .i64 0, .int .i64 at_, .string ⟨#[]⟩]], by simp [results, Tryd.results12, go_sem, a0, a1, a2, a3, b0, b1, b2, b3], .slice none 0 0, .slice none 0 0, .slice none 0 0, rfl, Kd.R_nil _ _ _ _ _, Kd.R_nil _ _ _ _ _, Kd.R_nil _ _ _ _ _, ?_⟩
     exact ⟨hC9.os.trans hch.os, hC9.tape.trans hch.tape, hC9.output.trans hch.output, Nat.le_trans hch.size hC9.size, fun i hi _ => (hC9.block i (Nat.lt_of_lt_of_le hi hch.size) (fun h => h.elim (fun e => by rw [← HG0.out] at hi; omega) (fun e => by rw [← HG0.out] at hi; omega))).trans (hch.block i hi (fun h => h))⟩
   | succ m =>
    have hb2 : decide ((16384 : Int) < (m : Int) + 1) = false := by simpa using hb
    have hb3 : decide ((0 : Int) < (m : Int) + 1) = true := decide_eq_true (by omega)
    go_wp2_with (first
     | (go_at_call 22; refine (tops_calls _).mono ?_; rintro e w1 ⟨rfl, rfl⟩)
     | (go_at_call 23; refine (members_calls _).mono ?_; rintro e w1 ⟨rfl, rfl⟩)
     | (go_at_call 24; refine (values_calls _).mono ?_; rintro e w1 ⟨rfl, rfl⟩))
    rw [← HW6.out, ← HG0.out]
    have hT := at_T42 (Kd.F_now (Kd.F_step (by rw [HG0.out]; exact HF.out : Kd.F k42 W (fun k => k < g0) A l.length l) (fun k hk hlt => HCh.out.block k hlt (fun h => h)))) (m : Int) (by omega) (by rw [← HN.out]; omega)
    obtain ⟨ad, rfl, _, a1, a2⟩ := hT
    have hrd : rd_T42 l (m : Int) = l.getD m ⟨0, 0, ⟨#[]⟩⟩ := rfl
    obtain ⟨tk, htk⟩ : ∃ t : PTok, t = l.getD m ⟨0, 0, ⟨#[]⟩⟩ := ⟨_, rfl⟩
    rw [hrd, ← htk] at a1 a2
    simp only [Int.toNat_natCast] at a1 a2
    have hend : Pm.endOf l = wrap64 (tk.f1 + (tk.f2.size : Int)) := by
     have hl : l.getLast? = some tk := by rw [List.getLast?_eq_getElem?, ← HN.out, htk, List.getD_eq_getElem?_getD]; simp [List.getElem?_eq_getElem (show m < l.length by rw [← HN.out]; omega)]
     unfold Pm.endOf
     rw [hl]
    have hm0 : (0 : Int) ≤ (m : Int) := by omega
    have hm1 : (m : Int) ≤ 16384 := by have := HBig.out; have := HN.out; omega
    have hix : (m : Int) < (m : Int) + 1 := by omega
    obtain ⟨p1, pf, plt⟩ := pcell HK5.out
    have e1 : w6.cell? ⟨g0 + 1 + 1 + 1 + 1 + 1, 1, none⟩ = some (.int .i64 0) := p1 1 _ rfl
    have e2 := pf 1
    have HEnd := Aside0.mk hend
    have HWm := Aside0.mk (show wrap64 (m : Int) = (m : Int) by unfold Go.RowKit.wrap64; omega)
    clear p1 pf hrd htk hend
    refine wp_region_noPanic ?_
    refine start_ (n := 18) (S := fun w' => w'.cell? ⟨(ad.add (m * 3)).block, (ad.add (m * 3)).off + 1, none⟩ = some (.int .i64 tk.f1) ∧ w'.cell? ⟨(ad.add (m * 3)).block, (ad.add (m * 3)).off + 2, none⟩ = some (.string tk.f2)) (ds := [17]) #[false, false, false, false, false, false, false, false, false, false, false, false, false, false, false, false, false, false] (by kernel_rfl) rfl rfl ⟨(by simpa using a1), (by simpa using a2)⟩ (fun hHeld => ?_)
    refine pure_ (i := 0) (N := some 22) (v := ?_) (a' := ?_) #[true, false, false, false, false, false, false, false, false, false, false, false, false, false, false, false, false, false] rfl rfl (by kernel_rfl) (fun _ _ _ h => h) (Or.inl ⟨by rfl, ?_⟩) ?_ ?_
    rotate_left
    ·intro w'
     go_simp
     with_reducible rfl
    rotate_left
    ·simp only [Act.put, List.setIfInBounds_toArray, List.set_cons_zero, List.set_cons_succ, i64_w, i32_w]
     rfl
    refine pure_ (i := 1) (N := some 23) (v := ?_) (a' := ?_) #[true, true, false, false, false, false, false, false, false, false, false, false, false, false, false, false, false, false] rfl rfl (by kernel_rfl) (fun _ _ _ h => h) (Or.inl ⟨by rfl, ?_⟩) ?_ ?_
    rotate_left
    ·intro w'
     go_simp
     with_reducible rfl
    rotate_left
    ·simp only [Act.put, List.setIfInBounds_toArray, List.set_cons_zero, List.set_cons_succ, i64_w, i32_w]
     rfl
    refine pure_ (i := 2) (N := some 24) (v := ?_) (a' := ?_) #[true, true, true, false, false, false, false, false, false, false, false, false, false, false, false, false, false, false] rfl rfl (by kernel_rfl) (fun _ _ _ h => h) (Or.inl ⟨by rfl, ?_⟩) ?_ ?_
    rotate_left
    ·intro w'
     go_simp
     with_reducible rfl
    rotate_left
    ·simp only [Act.put, List.setIfInBounds_toArray, List.set_cons_zero, List.set_cons_succ, i64_w, i32_w]
     rfl
    refine pure_ (i := 3) (N := some 25) (v := .int .i64 (m : Int)) (a' := ?_) #[true, true, true, true, false, false, false, false, false, false, false, false, false, false, false, false, false, false] rfl rfl (by kernel_rfl) (fun _ _ _ h => h) (Or.inl ⟨by rfl, ?_⟩) ?_ ?_
    ·intro w'
     go_simp
     first | with_reducible rfl | (simp only [i64_w]; rw [HWm.out]) | (rw [HWm.out])
    rotate_left
    ·simp only [Act.put, List.setIfInBounds_toArray, List.set_cons_zero, List.set_cons_succ, i64_w, i32_w]
     rfl
    refine pure_ (i := 4) (N := some 26) (v := ?_) (a' := ?_) #[true, true, true, true, true, false, false, false, false, false, false, false, false, false, false, false, false, false] rfl rfl (by kernel_rfl) (fun _ _ _ h => h) (Or.inl ⟨by rfl, ?_⟩) ?_ ?_
    rotate_left
    ·intro w'
     go_simp
     with_reducible rfl
    rotate_left
    ·simp only [Act.put, List.setIfInBounds_toArray, List.set_cons_zero, List.set_cons_succ, i64_w, i32_w]
     rfl
    refine pure_ (i := 5) (N := some 27) (v := ?_) (a' := ?_) #[true, true, true, true, true, true, false, false, false, false, false, false, false, false, false, false, false, false] rfl rfl (by kernel_rfl) (fun _ _ _ h => h) (Or.inl ⟨by rfl, ?_⟩) ?_ ?_
    rotate_left
    ·intro w'
     go_simp
     with_reducible rfl
    rotate_left
    ·simp only [Act.put, List.setIfInBounds_toArray, List.set_cons_zero, List.set_cons_succ, i64_w, i32_w]
     rfl
    refine pure_ (i := 7) (N := some 29) (v := ?_) (a' := ?_) #[true, true, true, true, true, true, false, true, false, false, false, false, false, false, false, false, false, false] rfl rfl (by kernel_rfl) (fun _ _ _ h => h) (Or.inl ⟨by rfl, ?_⟩) ?_ ?_
    rotate_left
    ·intro w'
     go_simp
     with_reducible rfl
    rotate_left
    ·simp only [Act.put, List.setIfInBounds_toArray, List.set_cons_zero, List.set_cons_succ, i64_w, i32_w]
     rfl
    refine pure_ (i := 8) (N := some 30) (v := ?_) (a' := ?_) #[true, true, true, true, true, true, false, true, true, false, false, false, false, false, false, false, false, false] rfl rfl (by kernel_rfl) (fun _ _ _ h => h) (Or.inl ⟨by rfl, ?_⟩) ?_ ?_
    rotate_left
    ·intro w'
     go_simp
     with_reducible rfl
    rotate_left
    ·simp only [Act.put, List.setIfInBounds_toArray, List.set_cons_zero, List.set_cons_succ, i64_w, i32_w]
     rfl
    refine pure_ (i := 9) (N := some 31) (v := .int .i64 (m : Int)) (a' := ?_) #[true, true, true, true, true, true, false, true, true, true, false, false, false, false, false, false, false, false] rfl rfl (by kernel_rfl) (fun _ _ _ h => h) (Or.inl ⟨by rfl, ?_⟩) ?_ ?_
    ·intro w'
     go_simp
     first | with_reducible rfl | (simp only [i64_w]; rw [HWm.out]) | (rw [HWm.out])
    rotate_left
    ·simp only [Act.put, List.setIfInBounds_toArray, List.set_cons_zero, List.set_cons_succ, i64_w, i32_w]
     rfl
    refine pure_ (i := 10) (N := some 32) (v := ?_) (a' := ?_) #[true, true, true, true, true, true, false, true, true, true, true, false, false, false, false, false, false, false] rfl rfl (by kernel_rfl) (fun _ _ _ h => h) (Or.inl ⟨by rfl, ?_⟩) ?_ ?_
    rotate_left
    ·intro w'
     go_simp
     with_reducible rfl
    rotate_left
    ·simp only [Act.put, List.setIfInBounds_toArray, List.set_cons_zero, List.set_cons_succ, i64_w, i32_w]
     rfl
    refine pure_ (i := 11) (N := some 33) (v := ?_) (a' := ?_) #[true, true, true, true, true, true, false, true, true, true, true, true, false, false, false, false, false, false] rfl rfl (by kernel_rfl) (fun _ _ _ h => h) (Or.inl ⟨by rfl, ?_⟩) ?_ ?_
    rotate_left
    ·intro w'
     go_simp
     with_reducible rfl
    rotate_left
    ·simp only [Act.put, List.setIfInBounds_toArray, List.set_cons_zero, List.set_cons_succ, i64_w, i32_w]
     rfl
    refine take_ (i := 6) (N := some 28) (v := ?_) (a' := ?_) #[true, true, true, true, true, true, true, true, true, true, true, true, false, false, false, false, false, false] rfl rfl (by kernel_rfl) (fun _ _ _ h => h) (Or.inl ⟨by rfl, ?_⟩) hHeld ?_ ?_
    rotate_left
    ·rintro w' ⟨s0, s1⟩
     go_simp
     with_reducible rfl
    rotate_left
    ·simp only [Act.put, List.setIfInBounds_toArray, List.set_cons_zero, List.set_cons_succ, i64_w, i32_w]
     rfl
    refine take_ (i := 12) (N := some 34) (v := ?_) (a' := ?_) #[true, true, true, true, true, true, true, true, true, true, true, true, true, false, false, false, false, false] rfl rfl (by kernel_rfl) (fun _ _ _ h => h) (Or.inl ⟨by rfl, ?_⟩) hHeld ?_ ?_
    rotate_left
    ·rintro w' ⟨s0, s1⟩
     go_simp
     with_reducible rfl
    rotate_left
    ·simp only [Act.put, List.setIfInBounds_toArray, List.set_cons_zero, List.set_cons_succ, i64_w, i32_w]
     rfl
    refine pure_ (i := 13) (N := some 35) (v := ?_) (a' := ?_) #[true, true, true, true, true, true, true, true, true, true, true, true, true, true, false, false, false, false] rfl rfl (by kernel_rfl) (fun _ _ _ h => h) (Or.inl ⟨by rfl, ?_⟩) ?_ ?_
    rotate_left
    ·intro w'
     go_simp
     with_reducible rfl
    rotate_left
    ·simp only [Act.put, List.setIfInBounds_toArray, List.set_cons_zero, List.set_cons_succ, i64_w, i32_w]
     rfl
    refine pure_ (i := 14) (N := some 36) (v := ?_) (a' := ?_) #[true, true, true, true, true, true, true, true, true, true, true, true, true, true, true, false, false, false] rfl rfl (by kernel_rfl) (fun _ _ _ h => h) (Or.inl ⟨by rfl, ?_⟩) ?_ ?_
    rotate_left
    ·intro w'
     go_simp
     with_reducible rfl
    rotate_left
    ·simp only [Act.put, List.setIfInBounds_toArray, List.set_cons_zero, List.set_cons_succ, i64_w, i32_w]
     rfl
    refine pure_ (i := 15) (N := some 37) (v := ?_) (a' := ?_) #[true, true, true, true, true, true, true, true, true, true, true, true, true, true, true, true, false, false] rfl rfl (by kernel_rfl) (fun _ _ _ h => h) (Or.inl ⟨by rfl, ?_⟩) ?_ ?_
    rotate_left
    ·intro w'
     go_simp
     with_reducible rfl
    rotate_left
    ·simp only [Act.put, List.setIfInBounds_toArray, List.set_cons_zero, List.set_cons_succ, i64_w, i32_w]
     rfl
    refine pure_ (i := 16) (N := some 38) (v := ?_) (a' := ?_) #[true, true, true, true, true, true, true, true, true, true, true, true, true, true, true, true, true, false] rfl rfl (by kernel_rfl) (fun _ _ _ h => h) (Or.inl ⟨by rfl, ?_⟩) ?_ ?_
    rotate_left
    ·intro w'
     go_simp
     with_reducible rfl
    rotate_left
    ·simp only [Act.put, List.setIfInBounds_toArray, List.set_cons_zero, List.set_cons_succ, i64_w, i32_w]
     rfl
    refine last_ (i := 17) (N := none) #[true, true, true, true, true, true, true, true, true, true, true, true, true, true, true, true, true, true] rfl rfl (by kernel_rfl) (by decide) (fun K hK => ?_)
    refine skip_ (w1 := ?_) (by rfl) rfl ?_ ?_
    rotate_left
    ·go_simp
     rfl
    refine hK.out _ _ ?_
    clear hK K
    refine done_ (by kernel_rfl) ?_
    refine NoPanic.normal ?_
    go_wp2_with fail
    have hb5 : g0 + 1 + 1 + 1 + 1 + 1 < W.heap.size → False := fun h => by rw [← HG0.out] at h; omega
    have hc7 : Ch (fun _ => False) W (w6.setCell ⟨g0 + 1 + 1 + 1 + 1 + 1, 1, none⟩ (.int .i64 (wrap64 (tk.f1 + (tk.f2.size : Int))))).drew := Ch.drew (Ch.set HCh.out hb5 _)
    have K5 := bx_dr (pset HK5.out 1 (.int .i64 (wrap64 (tk.f1 + (tk.f2.size : Int)))))
    rw [← HEnd.out] at hc7 K5 ⊢
    rw [HN.out] at K5
    have HC7 := Aside0.mk hc7
    have HK7 := Aside0.mk K5
    clear hc7 K5 hb5 e1 e2 a1 a2
    refine hfile _ _ ⟨some ad, c, HK7.out, HCc.out, Kd.F_step (by rw [HG0.out]; exact HF.out) (fun k hk hlt => HC7.out.block k hlt (fun h => h)), by show g0 ≤ _; omega, ⟨HBig.out, ⟨Int.le_refl 0, (by decide : (0 : Int) ≤ 4096)⟩, ⟨Int.le_refl 0, (by decide : (0 : Int) ≤ 32)⟩⟩, ⟨HL.out.ch HC7.out (fun h => h) (fun h => h), H2.out⟩⟩ (bx_dr (bx_st HK0.out (by omega) _)) (bx_dr (bx_st HK1.out (by omega) _)) (bx_dr (bx_st HK2.out (by omega) _)) (bx_dr (bx_st HK3.out (by omega) _)) (bx_dr (bx_st HK4.out (by omega) _)) HC7.out (by have := HSz.out; simpa [World.setCell] using this) ?_ ?_
    ·intro f w8 v0 v1 v2 v3 hr q2 q3 q4 q5 h1 h2 h3 k0 k1 hch hsz hrows
     obtain ⟨A1, n1, c1, rfl⟩ := h1
     obtain ⟨A2, n2, c2, rfl⟩ := h2
     obtain ⟨A3, n3, c3, rfl⟩ := h3
     subst hr
     obtain ⟨p1, pf, plt⟩ := pcell k0
     obtain ⟨r1_, rf, rlt⟩ := pcell k1
     have a0 : w8.cell? ⟨g0, 0, none⟩ = some (.string ⟨#[]⟩) := p1 0 _ rfl
     have a1 : w8.cell? ⟨g0, 1, none⟩ = some (.slice none 0 0) := p1 1 _ rfl
     have a2 : w8.cell? ⟨g0, 2, none⟩ = some (.slice none 0 0) := p1 2 _ rfl
     have a3 : w8.cell? ⟨g0, 3, none⟩ = some (.slice none 0 0) := p1 3 _ rfl
     have b0 : w8.cell? ⟨g0 + 1, 0, none⟩ = some (.int .i64 0) := r1_ 0 _ rfl
     have b1 : w8.cell? ⟨g0 + 1, 1, none⟩ = some (.int .i64 0) := r1_ 1 _ rfl
     have b2 : w8.cell? ⟨g0 + 1, 2, none⟩ = some (.int .i64 0) := r1_ 2 _ rfl
     have b3 : w8.cell? ⟨g0 + 1, 3, none⟩ = some (.string ⟨#[]⟩) := r1_ 3 _ rfl
     have c0 := pf 0
     have c1_ := pf 1
     have c2_ := pf 2
     have c3_ := pf 3
     have d0 := rf 0
     have d1 := rf 1
     have d2 := rf 2
     have d3 := rf 3
     have hne : g0 ≠ g0 + 1 := by omega
     have hne2 : g0 + 1 ≠ g0 := by omega
     have HRows := Aside0.mk hrows
     have HCh8 := Aside0.mk hch
     have HSz8 := Aside0.mk hsz
     clear p1 pf r1_ rf k0 k1 hrows hch hsz
     go_wp2
     refine leaves_cons (f := 21) (args := #[.pointer (some ⟨g0, 0, none⟩), .pointer (some ⟨g0 + 1, 0, none⟩)]) (by simp) (by simp [go_sem]) ?_
     refine (catch_idle g0 (g0 + 1) _).mono ?_
     rintro e u' w'' ⟨rfl, rfl, rfl⟩
     show Leaves Tryd.prog _ _ _ [] FrameMode.returning _
     refine ⟨.tuple #[.agg #[.string f.f0, .slice A1 n1 c1, .slice A2 n2 c2, .slice A3 n3 c3], .agg #[.int .i64 0, .int .i64 0, .int .i64 0, .string ⟨#[]⟩]], by simp [results, Tryd.results12, go_sem, *], .slice A1 n1 c1, .slice A2 n2 c2, .slice A3 n3 c3, rfl, ?_, ?_, ?_, ?_⟩
     ·exact And.left (HRows.out _ (by exact (Ch.set (Ch.set (Ch.set (Ch.set (Ch.set (Ch.set (Ch.set (Ch.set (Ch.refl _ _) (fun _ => Or.inl rfl) _) (fun _ => Or.inl rfl) _) (fun _ => Or.inl rfl) _) (fun _ => Or.inl rfl) _) (fun _ => Or.inr rfl) _) (fun _ => Or.inr rfl) _) (fun _ => Or.inr rfl) _) (fun _ => Or.inr rfl) _)))
     ·exact And.left (And.right (HRows.out _ (by exact (Ch.set (Ch.set (Ch.set (Ch.set (Ch.set (Ch.set (Ch.set (Ch.set (Ch.refl _ _) (fun _ => Or.inl rfl) _) (fun _ => Or.inl rfl) _) (fun _ => Or.inl rfl) _) (fun _ => Or.inl rfl) _) (fun _ => Or.inr rfl) _) (fun _ => Or.inr rfl) _) (fun _ => Or.inr rfl) _) (fun _ => Or.inr rfl) _))))
     ·exact And.right (And.right (HRows.out _ (by exact (Ch.set (Ch.set (Ch.set (Ch.set (Ch.set (Ch.set (Ch.set (Ch.set (Ch.refl _ _) (fun _ => Or.inl rfl) _) (fun _ => Or.inl rfl) _) (fun _ => Or.inl rfl) _) (fun _ => Or.inl rfl) _) (fun _ => Or.inr rfl) _) (fun _ => Or.inr rfl) _) (fun _ => Or.inr rfl) _) (fun _ => Or.inr rfl) _))))
     ·exact Ch.new2 HCh8.out (by exact (Ch.set (Ch.set (Ch.set (Ch.set (Ch.set (Ch.set (Ch.set (Ch.set (Ch.refl _ _) (fun _ => Or.inl rfl) _) (fun _ => Or.inl rfl) _) (fun _ => Or.inl rfl) _) (fun _ => Or.inl rfl) _) (fun _ => Or.inr rfl) _) (fun _ => Or.inr rfl) _) (fun _ => Or.inr rfl) _) (fun _ => Or.inr rfl) _)) (by rw [← HG0.out]; exact Nat.le_refl _)
    ·intro er at_ w8 hr k0 k1 hch hsz
     subst hr
     refine leaves_cons (f := 21) (args := #[.pointer (some ⟨g0, 0, none⟩), .pointer (some ⟨g0 + 1, 0, none⟩)]) (by simp) (by simp [go_sem]) ?_
     refine (catch_stop g0 (g0 + 1) er at_ _ _ _ _ _ _ _ _ [] w8 k0 k1 (by omega)).mono ?_
     rintro e u' w9 ⟨rfl, rfl, hC9, q0, q1⟩
     obtain ⟨p1, pf, plt⟩ := pcell q0
     obtain ⟨r1_, rf, rlt⟩ := pcell q1
     have a0 : w9.cell? ⟨g0, 0, none⟩ = some (.string ⟨#[]⟩) := p1 0 _ rfl
     have a1 : w9.cell? ⟨g0, 1, none⟩ = some (.slice none 0 0) := p1 1 _ rfl
     have a2 : w9.cell? ⟨g0, 2, none⟩ = some (.slice none 0 0) := p1 2 _ rfl
     have a3 : w9.cell? ⟨g0, 3, none⟩ = some (.slice none 0 0) := p1 3 _ rfl
     have b0 : w9.cell? ⟨g0 + 1, 0, none⟩ = some (.int .i64 er) := r1_ 0 _ rfl
     have b1 : w9.cell? ⟨g0 + 1, 1, none⟩ = some (.int .i64 0) := r1_ 1 _ rfl
     have b2 : w9.cell? ⟨g0 + 1, 2, none⟩ = some (.int .i64 at_) := r1_ 2 _ rfl
     have b3 : w9.cell? ⟨g0 + 1, 3, none⟩ = some (.string ⟨#[]⟩) := r1_ 3 _ rfl
     show Leaves Tryd.prog _ _ _ [] FrameMode.returning w9
     refine ⟨.tuple #[.agg #[.string ⟨#[]⟩, .slice none 0 0, .slice none 0 0, .slice none 0 0], .agg #[.int .i64 er, .int .i64 0, .int .i64 at_, .string ⟨#[]⟩]], by simp [results, Tryd.results12, go_sem, a0, a1, a2, a3, b0, b1, b2, b3], .slice none 0 0, .slice none 0 0, .slice none 0 0, rfl, Kd.R_nil _ _ _ _ _, Kd.R_nil _ _ _ _ _, Kd.R_nil _ _ _ _ _, ?_⟩
     exact ⟨hC9.os.trans hch.os, hC9.tape.trans hch.tape, hC9.output.trans hch.output, Nat.le_trans hch.size hC9.size, fun i hi _ => (hC9.block i (Nat.lt_of_lt_of_le hi hch.size) (fun h => h.elim (fun e => by rw [← HG0.out] at hi; omega) (fun e => by rw [← HG0.out] at hi; omega))).trans (hch.block i hi (fun h => h))⟩
  intro w7 P hP k0 k1 kT kM kE hch hsz hok herr
  have h7 : ∀ i, i < g0 + 6 → i < w7.heap.size := fun i hi => by omega
  refine (file_calls k (g0 + 6) (g0 + 1 + 1 + 1 + 1 + 1) (g0 + 1 + 1 + 1 + 1) (g0 + 1 + 1 + 1) (g0 + 1 + 1) (⟨g0, Pm.endOf l, .string ⟨#[]⟩, .slice none 0 0, .slice none 0 0, .slice none 0 0, false, .slice (some ⟨g0 + 1 + 1, 0, none⟩) 7 7, .slice (some ⟨g0 + 1 + 1 + 1, 0, none⟩) 11 11, .slice (some ⟨g0 + 1 + 1 + 1 + 1, 0, none⟩) 2 2⟩ : PFix) ⟨l, 0, 0⟩ r1 HR1.out w7 hP ⟨⟨by omega, by omega⟩, rfl, Kd.R_nil _ _ _ _ _, Kd.R_nil _ _ _ _ _, Kd.R_nil _ _ _ _ _⟩ rfl ⟨rfl, by omega, kE⟩ ⟨rfl, by omega, kM⟩ ⟨rfl, by omega, kT⟩ ⟨by omega, by omega, by omega⟩).mono ?_
  intro e w8 hU
  have far : Ch (SM (g0 + 1 + 1 + 1 + 1 + 1) (g0 + 6)) w7 w8 → w8.heap[g0]? = some (.cells #[.string ⟨#[]⟩, .slice none 0 0, .slice none 0 0, .slice none 0 0] 29 (0, 0)) ∧ w8.heap[g0 + 1]? = some (.cells #[.int .i64 0, .int .i64 0, .int .i64 0, .string ⟨#[]⟩] 32 (0, 0)) ∧ Ch (fun _ => False) W w8 ∧ g0 + 6 ≤ w8.heap.size := fun hC =>
   ⟨(hC.block g0 (h7 _ (by omega)) (fun h => h.elim (fun e => by omega) (fun e => by omega))).trans k0, (hC.block (g0 + 1) (h7 _ (by omega)) (fun h => h.elim (fun e => by omega) (fun e => by omega))).trans k1,
    ⟨hC.os.trans hch.os, hC.tape.trans hch.tape, hC.output.trans hch.output, Nat.le_trans hch.size hC.size, fun i hi _ => (hC.block i (Nat.lt_of_lt_of_le hi hch.size) (fun h => h.elim (fun e => by rw [← HG0.out] at hi; omega) (fun e => by rw [← HG0.out] at hi; omega))).trans (hch.block i hi (fun h => h))⟩, by have := hC.size; omega⟩
  rcases r1 with x | ⟨f, s'⟩
  ·obtain ⟨rfl, hC⟩ := hU
   obtain ⟨f0, f1, f2, f3⟩ := far hC
   exact herr _ _ _ (Option.some.inj HR2.out).symm f0 f1 f2 f3
  ·obtain ⟨rfl, X', hl, hP', hF', hC⟩ := hU
   obtain ⟨f0, f1, f2, f3⟩ := far hC
   have hcp := hP'.cP
   refine hok f w8 (.string f.f0) X'.p1 X'.p2 X'.p3 (Option.some.inj HR2.out).symm (hcp.1.trans (congrArg some hF'.2.1)) hcp.2.1 hcp.2.2.1 hcp.2.2.2.1 (R_slice3 hF'.2.2.1) (R_slice3 hF'.2.2.2.1) (R_slice3 hF'.2.2.2.2) f0 f1 f2 f3 (fun w9 hc => ?_)
   have hb : W.heap.size ≤ g0 + 6 := by rw [← HG0.out]; omega
   exact ⟨Kd.R_mono (Kd.R_lower (row_ch hF'.2.2.1 hc (fun k h1 _ _ _ h => by omega)) hb) (fun _ _ => trivial), Kd.R_mono (Kd.R_lower (row_ch hF'.2.2.2.1 hc (fun k h1 _ _ _ h => by omega)) hb) (fun _ _ => trivial), Kd.R_mono (Kd.R_lower (row_ch hF'.2.2.2.2 hc (fun k h1 _ _ _ h => by omega)) hb) (fun _ _ => trivial)⟩
end Go.Proofs.YtgkodenllfpajaaDoor.A
end
section
namespace Go.Proofs.YtgkodenllfpajaaDoor.A
open Go.RowKit Go.Proofs.YtgkodenllfpajaaDoorW.PrintWords Go.Proofs.YtgkodenllfpajaaDoorW.PrintLast Go.Proofs.YtgkodenllfpajaaDoorW.PrintMore
set_option linter.unusedVariables false
set_option linter.unusedSimpArgs false
theorem R_chT {α : Type} {d : Kd α} {e : Nat} {W W1 : World} {base : Nat} {v : Value} {xs : List α} {S : Nat → Prop} (h : d.R e W base (fun _ => True) v xs) (hc : Ch S W W1) (hS : ∀ k, base ≤ k → ¬ S k) : d.R e W1 base (fun _ => True) v xs :=
 Kd.R_mono (Kd.R_step (Kd.R_bound h) (fun k hk hlt => hc.block k hlt (hS k hk.2.1))) (fun _ _ => trivial)
def Pm.parse2 (k : Nat) (t : ByteArray) : Option (PFile × Int × Int) := (scan_Tokens.f k t).bind fun x => if x.2.2 = 0 then Pm.tokens2 k x.1 else some (Pm.zfile, x.2.2, x.2.1)
set_option maxHeartbeats 8000000 in
set_option maxRecDepth 100000 in
theorem parse_calls (k : Nat) (t : ByteArray) (r : PFile × Int × Int) (hr : Pm.parse2 k t = some r) (W : World) (hL : LaidW W) :
  Calls Tryd.prog 9 #[.string t] W (PostTok W r) := by
 unfold Pm.parse2 at hr
 obtain ⟨⟨l, at_, e_⟩, hs, hr⟩ := Option.bind_eq_some_iff.mp hr
 have HS := Aside0.mk hs
 have HR := Aside0.mk hr
 have HL := Aside0.mk hL
 have hL2 : LaidW ((W.alloc (.cells #[.string ⟨#[]⟩, .slice none 0 0, .slice none 0 0, .slice none 0 0] 29)).alloc (.cells #[.int .i64 0, .int .i64 0, .int .i64 0, .string ⟨#[]⟩] 32)) := hL.ch (Ch.alloc (Ch.alloc (Ch.refl (fun _ => False) W) _) _) (fun h => h) (fun h => h)
 have HL2 := Aside0.mk hL2
 clear hs hr hL hL2
 go_enter Tryd.func9, Tryd.ntmps9
 go_wp2_with fail
 refine (scan_Tokens.calls k t l at_ e_ _ HS.out HL2.out).mono ?_
 rintro e w1 ⟨v0, rfl, hR, hB⟩
 obtain ⟨A, n, c, rfl⟩ := R_slice3 hR
 have hn : n = l.length := by obtain ⟨_, _, e⟩ := Kd.R_slice hR; injection e
 subst hn
 have hnc := (Kd.R_reads' hR).2.1
 have HF := Aside0.mk (Kd.F_bound (Kd.R_F hR))
 have HNc := Aside0.mk hnc
 obtain ⟨g0, hg0⟩ : ∃ g, g = W.heap.size := ⟨_, rfl⟩
 have K0 := (hB.block W.heap.size (by simp only [World.size_alloc]; omega)).trans (bx_al (blk_new W (.cells #[.string ⟨#[]⟩, .slice none 0 0, .slice none 0 0, .slice none 0 0] 29)) (.cells #[.int .i64 0, .int .i64 0, .int .i64 0, .string ⟨#[]⟩] 32))
 have K1 := (hB.block (W.alloc (.cells #[.string ⟨#[]⟩, .slice none 0 0, .slice none 0 0, .slice none 0 0] 29)).heap.size (by simp only [World.size_alloc]; omega)).trans (blk_new (W.alloc (.cells #[.string ⟨#[]⟩, .slice none 0 0, .slice none 0 0, .slice none 0 0] 29)) (.cells #[.int .i64 0, .int .i64 0, .int .i64 0, .string ⟨#[]⟩] 32))
 have hC1 : Ch (fun _ => False) W w1 := (Ch.alloc (Ch.alloc (Ch.refl _ W) _) _).then_below hB
 have hs1 : W.heap.size + 2 ≤ w1.heap.size := by have := hB.size; simpa using this
 simp only [World.size_alloc] at K1
 rw [← hg0] at K0 K1 hs1
 have HG0 := Aside0.mk hg0
 have HK0 := Aside0.mk K0
 have HK1 := Aside0.mk K1
 have HC1 := Aside0.mk hC1
 have HS1 := Aside0.mk hs1
 have HL1 := Aside0.mk (HL.out.ch hC1 (fun h => h) (fun h => h))
 obtain ⟨p1, pf, plt⟩ := pcell K0
 obtain ⟨q1, qf, qlt⟩ := pcell K1
 have a0 : w1.cell? ⟨g0, 0, none⟩ = some (.string ⟨#[]⟩) := p1 0 _ rfl
 have a1 : w1.cell? ⟨g0, 1, none⟩ = some (.slice none 0 0) := p1 1 _ rfl
 have a2 : w1.cell? ⟨g0, 2, none⟩ = some (.slice none 0 0) := p1 2 _ rfl
 have a3 : w1.cell? ⟨g0, 3, none⟩ = some (.slice none 0 0) := p1 3 _ rfl
 have b0 : w1.cell? ⟨g0 + 1, 0, none⟩ = some (.int .i64 0) := q1 0 _ rfl
 have b1 : w1.cell? ⟨g0 + 1, 1, none⟩ = some (.int .i64 0) := q1 1 _ rfl
 have b2 : w1.cell? ⟨g0 + 1, 2, none⟩ = some (.int .i64 0) := q1 2 _ rfl
 have b3 : w1.cell? ⟨g0 + 1, 3, none⟩ = some (.string ⟨#[]⟩) := q1 3 _ rfl
 have c0 := pf 0
 have c1 := pf 1
 have c2 := pf 2
 have c3 := pf 3
 have d0 := qf 0
 have d1 := qf 1
 have d2 := qf 2
 have d3 := qf 3
 have hne : g0 ≠ g0 + 1 := by omega
 have hne2 : g0 + 1 ≠ g0 := by omega
 clear p1 pf q1 qf K0 K1 hC1 hs1 hR hB hnc
 rw [← hg0]
 clear hg0
 by_cases he : e_ = 0
 ·have hr3 := HR.out
  rw [if_pos he] at hr3
  have HT := Aside0.mk hr3
  have hb : (e_ == 0) = true := beq_iff_eq.mpr he
  have hb2 : (e_ != 0) = false := by simp [he]
  clear hr3 HR he a0 a1 a2 a3 b0 b1 b2 b3 c0 c1 c2 c3 d0 d1 d2 d3
  go_wp2_with fail
  refine (tokens_calls k l r HT.out w1 HL1.out A c HNc.out (Kd.F_mono HF.out (fun k hk => hk.2))).mono ?_
  rintro e w2 ⟨v1, v2, v3, rfl, r1, r2, r3, hC⟩
  obtain ⟨A1, n1, m1, rfl⟩ := R_slice3 r1
  obtain ⟨A2, n2, m2, rfl⟩ := R_slice3 r2
  obtain ⟨A3, n3, m3, rfl⟩ := R_slice3 r3
  have K0 := (hC.block g0 (by have := HS1.out; omega) (fun h => h)).trans HK0.out
  have K1 := (hC.block (g0 + 1) (by have := HS1.out; omega) (fun h => h)).trans HK1.out
  have R1 := Aside0.mk r1
  have R2 := Aside0.mk r2
  have R3 := Aside0.mk r3
  have HC2 := Aside0.mk (Ch.trans HC1.out hC)
  obtain ⟨p1, pf, plt2⟩ := pcell K0
  obtain ⟨q1, qf, qlt2⟩ := pcell K1
  have a0 : w2.cell? ⟨g0, 0, none⟩ = some (.string ⟨#[]⟩) := p1 0 _ rfl
  have a1 : w2.cell? ⟨g0, 1, none⟩ = some (.slice none 0 0) := p1 1 _ rfl
  have a2 : w2.cell? ⟨g0, 2, none⟩ = some (.slice none 0 0) := p1 2 _ rfl
  have a3 : w2.cell? ⟨g0, 3, none⟩ = some (.slice none 0 0) := p1 3 _ rfl
  have b0 : w2.cell? ⟨g0 + 1, 0, none⟩ = some (.int .i64 0) := q1 0 _ rfl
  have b1 : w2.cell? ⟨g0 + 1, 1, none⟩ = some (.int .i64 0) := q1 1 _ rfl
  have b2 : w2.cell? ⟨g0 + 1, 2, none⟩ = some (.int .i64 0) := q1 2 _ rfl
  have b3 : w2.cell? ⟨g0 + 1, 3, none⟩ = some (.string ⟨#[]⟩) := q1 3 _ rfl
  have c0 := pf 0
  have c1 := pf 1
  have c2 := pf 2
  have c3 := pf 3
  have d0 := qf 0
  have d1 := qf 1
  have d2 := qf 2
  have d3 := qf 3
  clear p1 pf q1 qf K0 K1 hC r1 r2 r3 plt qlt
  go_wp2
  refine bodyPost_ret (v := .tuple #[.agg #[.string r.1.f0, .slice A1 n1 m1, .slice A2 n2 m2, .slice A3 n3 m3], .agg #[.int .i64 r.2.1, .int .i64 0, .int .i64 r.2.2, .string ⟨#[]⟩]]) (by simp [results, Tryd.results9, go_sem, *]) rfl ?_
  have hlow : W.heap.size ≤ w1.heap.size := HC1.out.size
  have far : ∀ k, w1.heap.size ≤ k → ¬ (k = g0 ∨ k = g0 + 1) := fun k hk h => by have := HS1.out; omega
  refine ⟨.slice A1 n1 m1, .slice A2 n2 m2, .slice A3 n3 m3, rfl, ?_, ?_, ?_, ?_⟩
  ·exact Kd.R_lower (R_chT R1.out (by exact (Ch.set (Ch.set (Ch.set (Ch.set (Ch.set (Ch.set (Ch.set (Ch.set (Ch.refl _ _) (fun _ => Or.inl rfl) _) (fun _ => Or.inl rfl) _) (fun _ => Or.inl rfl) _) (fun _ => Or.inl rfl) _) (fun _ => Or.inr rfl) _) (fun _ => Or.inr rfl) _) (fun _ => Or.inr rfl) _) (fun _ => Or.inr rfl) _)) far) hlow
  ·exact Kd.R_lower (R_chT R2.out (by exact (Ch.set (Ch.set (Ch.set (Ch.set (Ch.set (Ch.set (Ch.set (Ch.set (Ch.refl _ _) (fun _ => Or.inl rfl) _) (fun _ => Or.inl rfl) _) (fun _ => Or.inl rfl) _) (fun _ => Or.inl rfl) _) (fun _ => Or.inr rfl) _) (fun _ => Or.inr rfl) _) (fun _ => Or.inr rfl) _) (fun _ => Or.inr rfl) _)) far) hlow
  ·exact Kd.R_lower (R_chT R3.out (by exact (Ch.set (Ch.set (Ch.set (Ch.set (Ch.set (Ch.set (Ch.set (Ch.set (Ch.refl _ _) (fun _ => Or.inl rfl) _) (fun _ => Or.inl rfl) _) (fun _ => Or.inl rfl) _) (fun _ => Or.inl rfl) _) (fun _ => Or.inr rfl) _) (fun _ => Or.inr rfl) _) (fun _ => Or.inr rfl) _) (fun _ => Or.inr rfl) _)) far) hlow
  ·exact Ch.new2 HC2.out (by exact (Ch.set (Ch.set (Ch.set (Ch.set (Ch.set (Ch.set (Ch.set (Ch.set (Ch.refl _ _) (fun _ => Or.inl rfl) _) (fun _ => Or.inl rfl) _) (fun _ => Or.inl rfl) _) (fun _ => Or.inl rfl) _) (fun _ => Or.inr rfl) _) (fun _ => Or.inr rfl) _) (fun _ => Or.inr rfl) _) (fun _ => Or.inr rfl) _)) (by rw [HG0.out]; exact Nat.le_refl _)
 ·have hr3 := HR.out
  rw [if_neg he] at hr3
  obtain rfl := Option.some.inj hr3
  have hb : (e_ == 0) = false := beq_eq_false_iff_ne.mpr he
  have hb2 : (e_ != 0) = true := by simp [he]
  clear hr3 HR he
  go_wp2
  refine bodyPost_ret (v := .tuple #[.agg #[.string ⟨#[]⟩, .slice none 0 0, .slice none 0 0, .slice none 0 0], .agg #[.int .i64 e_, .int .i64 0, .int .i64 at_, .string ⟨#[]⟩]]) (by simp [results, Tryd.results9, go_sem, *]) rfl ?_
  refine ⟨.slice none 0 0, .slice none 0 0, .slice none 0 0, rfl, Kd.R_nil _ _ _ _ _, Kd.R_nil _ _ _ _ _, Kd.R_nil _ _ _ _ _, ?_⟩
  exact Ch.new2 HC1.out (by exact (Ch.set (Ch.set (Ch.set (Ch.set (Ch.set (Ch.set (Ch.set (Ch.set (Ch.refl _ _) (fun _ => Or.inl rfl) _) (fun _ => Or.inl rfl) _) (fun _ => Or.inl rfl) _) (fun _ => Or.inl rfl) _) (fun _ => Or.inr rfl) _) (fun _ => Or.inr rfl) _) (fun _ => Or.inr rfl) _) (fun _ => Or.inr rfl) _)) (by rw [HG0.out]; exact Nat.le_refl _)
theorem w64_in (n : Int) (h : -9223372036854775808 ≤ n ∧ n ≤ 9223372036854775807) : wrap64 n = n := by unfold Go.RowKit.wrap64; omega
theorem Below.drewN_ {B : Nat} {w w1 : World} {n : Nat} (h : Below B w w1) : Below B w (w1.drewN n) := pw_below_drewN h n
theorem Below.drew_ {B : Nat} {w w1 : World} (h : Below B w w1) : Below B w w1.drew := below_drew h
theorem below_tr {B : Nat} {w w1 w2 : World} (h : Below B w w1) (hB : B ≤ w1.heap.size) (k : Below w1.heap.size w1 w2) : Below B w w2 :=
 ⟨k.os.trans h.os, k.tape.trans h.tape, k.output.trans h.output, Nat.le_trans h.size k.size, fun i hi => (k.block i (Nat.lt_of_lt_of_le hi hB)).trans (h.block i hi)⟩
theorem sameTexts_refl (l : List ByteArray) (hl : l.length < 4611686018427387904) : ∃ k, sigillaw5_SameTexts.f k l l = some true := by
 have key : ∀ n i : Nat, n + i = l.length → sigillaw5_SameTexts.l0 (n + 1) l l (i : Int) = some true := by
  intro n
  induction n with
  | zero => intro i h; unfold sigillaw5_SameTexts.l0; rw [if_neg (by omega)]
  | succ n ih =>
   intro i h
   unfold sigillaw5_SameTexts.l0
   rw [if_pos (by omega), if_pos (by omega), if_pos (by omega), if_pos rfl, w64_in _ (by omega)]
   exact ih (i + 1) (by omega)
 exact ⟨l.length + 1, by unfold sigillaw5_SameTexts.f; rw [if_pos rfl]; exact key l.length 0 (by omega)⟩
theorem sameRows_refl (l : List PRange) (hl : l.length < 4611686018427387904) : ∃ k, sigillaw5_sameRows.f k l l = some true := by
 have key : ∀ n i : Nat, n + i = l.length → sigillaw5_sameRows.l0 (n + 1) l l (i : Int) = some true := by
  intro n
  induction n with
  | zero => intro i h; unfold sigillaw5_sameRows.l0; rw [if_neg (by omega)]
  | succ n ih =>
   intro i h
   unfold sigillaw5_sameRows.l0
   rw [if_pos (by omega), if_pos (by omega), if_pos (by omega)]
   simp only [w64_in ((i : Int) + 1) (by omega), beq_self_eq_true, Bool.and_self, Bool.and_true, Bool.not_true, Bool.or_self, Bool.false_eq_true, if_false, ne_eq, not_true_eq_false, not_false_eq_true, if_true]
   exact ih (i + 1) (by omega)
 exact ⟨l.length + 1, by unfold sigillaw5_sameRows.f; rw [if_pos rfl]; exact key l.length 0 (by omega)⟩
def smallE (x : PEnum) : Prop := x.f1.length < 4611686018427387904 ∧ x.f2.length < 4611686018427387904 ∧ x.f3.length < 4611686018427387904
def MsgEq (l : List PMsg) : Prop := ∀ (A0 : Option Addr) (c0 : Nat) (A1 : Option Addr) (c1 : Nat) (w : World), Kd.C k48 w A0 l.length l → l.length ≤ c0 → Kd.C k48 w A1 l.length l → l.length ≤ c1 → Calls Tryd.prog 19 #[.slice A0 l.length c0, .slice A1 l.length c1] w fun e w' => e = .returned (.bool true) ∧ Below w.heap.size w w'
def lensM (x : PMsg) : Prop := x.f1.length < 4611686018427387904 ∧ x.f2.length < 4611686018427387904 ∧ x.f3.length < 4611686018427387904 ∧ x.f4.length < 4611686018427387904 ∧ x.f5.length < 4611686018427387904 ∧ x.f6.length < 4611686018427387904 ∧ (∀ y ∈ x.f4, smallE y)
def smallM : Nat → PMsg → Prop
 | 0, _ => False
 | d + 1, x => lensM x ∧ ∀ y ∈ x.f3, smallM d y
set_option maxHeartbeats 8000000 in
set_option maxRecDepth 100000 in
theorem sameEnums_eq (A0 : Option Addr) (c0 : Nat) (A1 : Option Addr) (c1 : Nat) (l : List PEnum) (w : World) (hs : ∀ x ∈ l, smallE x) (hl : l.length < 4611686018427387904) (hr0 : Kd.C k77 w A0 l.length l) (hc0 : l.length ≤ c0) (hr1 : Kd.C k77 w A1 l.length l) (hc1 : l.length ≤ c1) :
  Calls Tryd.prog 20 #[.slice A0 l.length c0, .slice A1 l.length c1] w fun e w' => e = .returned (.bool true) ∧ Below w.heap.size w w' := by
 have huT := Tryd.underlying77
 have huL := Tryd.underlying79
 have HR0 := Aside0.mk hr0
 have HC0 := Aside0.mk hc0
 have HR1 := Aside0.mk hr1
 have HC1 := Aside0.mk hc1
 have HLl := Aside0.mk hl
 have HSm := Aside0.mk hs
 clear hr0 hc0 hr1 hc1 hl hs
 go_enter Tryd.func20, Tryd.ntmps20
 go_wp2
 go_loopg [5] l.length (fun kq v5 w' => ∃ i : Int, v5 = .int .i64 i ∧ Aside0 (0 ≤ i ∧ (kq : Int) + i = (l.length : Int)) ∧ Aside0 (Below w.heap.size w w'))
 case atStart => exact ⟨0, rfl, ⟨⟨Int.le_refl 0, by omega⟩⟩, ⟨Below.refl _ _⟩⟩
 case round =>
  obtain ⟨i, rfl, HK, HB⟩ := hrel
  obtain ⟨wo, rfl⟩ : ∃ wo : World, wo = wr := ⟨_, rfl⟩
  cases gk with
  | zero =>
   have hd : decide (i < (l.length : Int)) = false := decide_eq_false (by have := HK.out; omega)
   go_wp2
   go_ret
   exact ⟨rfl, HB.out⟩
  | succ k1 =>
   have hi0 : 0 ≤ i := HK.out.1
   have hi1 : i < (l.length : Int) := by have := HK.out; omega
   have hd : decide (i < (l.length : Int)) = true := decide_eq_true hi1
   obtain ⟨ad0, B1, d1, B2, d2, B3, d3, e0, a0, a1, a2, a3, n1, r1, n2, r2, n3, r3⟩ := at_T77 (Kd.C_below HR0.out HB.out) i hi0 hi1
   cases e0
   obtain ⟨ad1, D1, u1, D2, u2, D3, u3, e1, b0, b1, b2, b3, o1, s1, o2, s2, o3, s3⟩ := at_T77 (Kd.C_below HR1.out HB.out) i hi0 hi1
   cases e1
   obtain ⟨x, hx⟩ : ∃ x, x = rd_T77 l i := ⟨_, rfl⟩
   have hxm : x ∈ l := by
    rw [hx]
    show l.getD i.toNat _ ∈ l
    rw [List.getD_eq_getElem?_getD, List.getElem?_eq_getElem (show i.toNat < l.length by omega)]
    exact List.getElem_mem _
   rw [← hx] at a0 b0 a1 b1 n1 r1 o1 s1 a2 b2 n2 r2 o2 s2 a3 b3 n3 r3 o3 s3
   have HSx := Aside0.mk (HSm.out x hxm)
   have hq0 := World.block_lt_of_cell? wo _ a0
   have hq1 := World.block_lt_of_cell? wo _ b0
   have P1 := Aside0.mk r1
   have Q1 := Aside0.mk s1
   have Np1 := Aside0.mk n1
   have Nq1 := Aside0.mk o1
   have P2 := Aside0.mk r2
   have Q2 := Aside0.mk s2
   have Np2 := Aside0.mk n2
   have Nq2 := Aside0.mk o2
   have P3 := Aside0.mk r3
   have Q3 := Aside0.mk s3
   have Np3 := Aside0.mk n3
   have Nq3 := Aside0.mk o3
   clear hx hxm n1 r1 o1 s1 n2 r2 o2 s2 n3 r3 o3 s3
   have K0 := blk_new wo (.cells #[.string x.f0, .slice B1 x.f1.length d1, .slice B2 x.f2.length d2, .slice B3 x.f3.length d3] 77)
   have K1 := blk_new (wo.alloc (.cells #[.string x.f0, .slice B1 x.f1.length d1, .slice B2 x.f2.length d2, .slice B3 x.f3.length d3] 77)) (.cells #[.string x.f0, .slice D1 x.f1.length u1, .slice D2 x.f2.length u2, .slice D3 x.f3.length u3] 77)
   simp only [World.size_alloc] at K1
   have HX := Aside0.mk (bx_al K0 (.cells #[.string x.f0, .slice D1 x.f1.length u1, .slice D2 x.f2.length u2, .slice D3 x.f3.length u3] 77))
   have HY := Aside0.mk K1
   clear K0 K1
   go_wp2_with fail
   obtain ⟨kk, hkk⟩ := sameRows_refl x.f2 (HSx.out.2.1)
   refine (sigillaw5_sameRows.calls kk _ _ x.f2 _ _ x.f2 true _ (Kd.C_below P2.out bel) Np2.out (Kd.C_below Q2.out bel) Nq2.out hkk).mono ?_
   clear hkk
   rintro e w2 ⟨rfl, ⟨mf2, rfl⟩⟩
   go_wp2_with fail
   obtain ⟨kk, hkk⟩ := sameTexts_refl x.f3 (HSx.out.2.2)
   refine (sigillaw5_SameTexts.calls kk _ _ x.f3 _ _ x.f3 true _ (Kd.C_below P3.out bel) Np3.out (Kd.C_below Q3.out bel) Nq3.out hkk).mono ?_
   clear hkk
   rintro e w2 ⟨rfl, ⟨mf3, rfl⟩⟩
   go_wp2
   go_loopg [8] x.f1.length (fun kq v8 w' => ∃ j : Int, v8 = .int .i64 j ∧ Aside0 (0 ≤ j ∧ (kq : Int) + j = (x.f1.length : Int)) ∧ Aside0 (Below wo.heap.size wo w') ∧ Aside0 (w'.heap[wo.heap.size]? = some (.cells #[.string x.f0, .slice B1 x.f1.length d1, .slice B2 x.f2.length d2, .slice B3 x.f3.length d3] 77 (0, 0))) ∧ Aside0 (w'.heap[wo.heap.size + 1]? = some (.cells #[.string x.f0, .slice D1 x.f1.length u1, .slice D2 x.f2.length u2, .slice D3 x.f3.length u3] 77 (0, 0))))
   case atStart => exact ⟨0, rfl, ⟨⟨Int.le_refl 0, by omega⟩⟩, ⟨bel⟩, ⟨by repeat (first | with_reducible exact HX.out | with_reducible apply bx_dn | with_reducible apply bx_dr)⟩, ⟨by repeat (first | with_reducible exact HY.out | with_reducible apply bx_dn | with_reducible apply bx_dr)⟩⟩
   case round =>
    obtain ⟨j, rfl, HJ, HBj, HXj, HYj⟩ := hrel
    obtain ⟨px, pxf, pxl⟩ := pcell HXj.out
    obtain ⟨py, pyf, pyl⟩ := pcell HYj.out
    have x0 := px 0 _ rfl
    have y0 := py 0 _ rfl
    have x1 := px 1 _ rfl
    have y1 := py 1 _ rfl
    have x2 := px 2 _ rfl
    have y2 := py 2 _ rfl
    have x3 := px 3 _ rfl
    have y3 := py 3 _ rfl
    clear px pxf py pyf
    cases gk with
    | zero =>
     have hdj : decide (j < (x.f1.length : Int)) = false := decide_eq_false (by have := HJ.out; omega)
     go_wp2
     go_roundg k1
     case measure => have := HK.out; omega
     case rel => exact ⟨wrap64 (i + 1), by first | rfl | (simp; done), ⟨by rw [w64_in _ (by have := HK.out; have := HLl.out; omega)]; have := HK.out; omega⟩, ⟨below_tr HB.out HB.out.size HBj.out⟩⟩
    | succ k2 =>
     have hj0 : 0 ≤ j := HJ.out.1
     have hj1 : j < (x.f1.length : Int) := by have := HJ.out; omega
     have hdj : decide (j < (x.f1.length : Int)) = true := decide_eq_true hj1
     obtain ⟨ae, ee, ec0, ec1⟩ := at_T79 (Kd.C_below P1.out HBj.out) j hj0 hj1
     cases ee
     obtain ⟨af, ef, fc0, fc1⟩ := at_T79 (Kd.C_below Q1.out HBj.out) j hj0 hj1
     cases ef
     replace hj0 := eq_true hj0
     replace hj1 := eq_true hj1
     go_wp2
     repeat (go_quiet (fail); try go_wp2)
     go_roundg k2
     case measure => have := HJ.out; omega
     case rel => exact ⟨wrap64 (j + 1), by first | rfl | (simp; done), ⟨by rw [w64_in _ (by have := HJ.out; have := HSx.out; unfold smallE at this; omega)]; have := HJ.out; omega⟩, ⟨by with_reducible repeat (first | exact HBj.out | apply Below.drewN_ | apply Below.drew_)⟩, ⟨by repeat (first | with_reducible exact HXj.out | with_reducible apply bx_dn | with_reducible apply bx_dr)⟩, ⟨by repeat (first | with_reducible exact HYj.out | with_reducible apply bx_dn | with_reducible apply bx_dr)⟩⟩
set_option maxHeartbeats 8000000 in
set_option maxRecDepth 100000 in
theorem sameMessages_step (A0 : Option Addr) (c0 : Nat) (A1 : Option Addr) (c1 : Nat) (l : List PMsg) (w : World) (hs : ∀ x ∈ l, lensM x ∧ MsgEq x.f3) (hl : l.length < 4611686018427387904) (hr0 : Kd.C k48 w A0 l.length l) (hc0 : l.length ≤ c0) (hr1 : Kd.C k48 w A1 l.length l) (hc1 : l.length ≤ c1) :
  Calls Tryd.prog 19 #[.slice A0 l.length c0, .slice A1 l.length c1] w fun e w' => e = .returned (.bool true) ∧ Below w.heap.size w w' := by
 have huT := Tryd.underlying48
 have huL := Tryd.underlying44
 have HR0 := Aside0.mk hr0
 have HC0 := Aside0.mk hc0
 have HR1 := Aside0.mk hr1
 have HC1 := Aside0.mk hc1
 have HLl := Aside0.mk hl
 have HSm := Aside0.mk hs
 clear hr0 hc0 hr1 hc1 hl hs
 go_enter Tryd.func19, Tryd.ntmps19
 go_wp2
 go_loopg [5] l.length (fun kq v5 w' => ∃ i : Int, v5 = .int .i64 i ∧ Aside0 (0 ≤ i ∧ (kq : Int) + i = (l.length : Int)) ∧ Aside0 (Below w.heap.size w w'))
 case atStart => exact ⟨0, rfl, ⟨⟨Int.le_refl 0, by omega⟩⟩, ⟨Below.refl _ _⟩⟩
 case round =>
  obtain ⟨i, rfl, HK, HB⟩ := hrel
  obtain ⟨wo, rfl⟩ : ∃ wo : World, wo = wr := ⟨_, rfl⟩
  cases gk with
  | zero =>
   have hd : decide (i < (l.length : Int)) = false := decide_eq_false (by have := HK.out; omega)
   go_wp2
   go_ret
   exact ⟨rfl, HB.out⟩
  | succ k1 =>
   have hi0 : 0 ≤ i := HK.out.1
   have hi1 : i < (l.length : Int) := by have := HK.out; omega
   have hd : decide (i < (l.length : Int)) = true := decide_eq_true hi1
   obtain ⟨ad0, B1, d1, B2, d2, B3, d3, B4, d4, B5, d5, B6, d6, e0, a0, a1, a2, a3, a4, a5, a6, n1, r1, n2, r2, n3, r3, n4, r4, n5, r5, n6, r6⟩ := at_T48 (Kd.C_below HR0.out HB.out) i hi0 hi1
   cases e0
   obtain ⟨ad1, D1, u1, D2, u2, D3, u3, D4, u4, D5, u5, D6, u6, e1, b0, b1, b2, b3, b4, b5, b6, o1, s1, o2, s2, o3, s3, o4, s4, o5, s5, o6, s6⟩ := at_T48 (Kd.C_below HR1.out HB.out) i hi0 hi1
   cases e1
   obtain ⟨x, hx⟩ : ∃ x, x = rd_T48 l i := ⟨_, rfl⟩
   have hxm : x ∈ l := by
    rw [hx]
    show l.getD i.toNat _ ∈ l
    rw [List.getD_eq_getElem?_getD, List.getElem?_eq_getElem (show i.toNat < l.length by omega)]
    exact List.getElem_mem _
   rw [← hx] at a0 b0 a1 b1 n1 r1 o1 s1 a2 b2 n2 r2 o2 s2 a3 b3 n3 r3 o3 s3 a4 b4 n4 r4 o4 s4 a5 b5 n5 r5 o5 s5 a6 b6 n6 r6 o6 s6
   have HSx := Aside0.mk (HSm.out x hxm)
   have hq0 := World.block_lt_of_cell? wo _ a0
   have hq1 := World.block_lt_of_cell? wo _ b0
   have P1 := Aside0.mk r1
   have Q1 := Aside0.mk s1
   have Np1 := Aside0.mk n1
   have Nq1 := Aside0.mk o1
   have P2 := Aside0.mk r2
   have Q2 := Aside0.mk s2
   have Np2 := Aside0.mk n2
   have Nq2 := Aside0.mk o2
   have P3 := Aside0.mk r3
   have Q3 := Aside0.mk s3
   have Np3 := Aside0.mk n3
   have Nq3 := Aside0.mk o3
   have P4 := Aside0.mk r4
   have Q4 := Aside0.mk s4
   have Np4 := Aside0.mk n4
   have Nq4 := Aside0.mk o4
   have P5 := Aside0.mk r5
   have Q5 := Aside0.mk s5
   have Np5 := Aside0.mk n5
   have Nq5 := Aside0.mk o5
   have P6 := Aside0.mk r6
   have Q6 := Aside0.mk s6
   have Np6 := Aside0.mk n6
   have Nq6 := Aside0.mk o6
   clear hx hxm n1 r1 o1 s1 n2 r2 o2 s2 n3 r3 o3 s3 n4 r4 o4 s4 n5 r5 o5 s5 n6 r6 o6 s6
   have K0 := blk_new wo (.cells #[.string x.f0, .slice B1 x.f1.length d1, .slice B2 x.f2.length d2, .slice B3 x.f3.length d3, .slice B4 x.f4.length d4, .slice B5 x.f5.length d5, .slice B6 x.f6.length d6] 48)
   have K1 := blk_new (wo.alloc (.cells #[.string x.f0, .slice B1 x.f1.length d1, .slice B2 x.f2.length d2, .slice B3 x.f3.length d3, .slice B4 x.f4.length d4, .slice B5 x.f5.length d5, .slice B6 x.f6.length d6] 48)) (.cells #[.string x.f0, .slice D1 x.f1.length u1, .slice D2 x.f2.length u2, .slice D3 x.f3.length u3, .slice D4 x.f4.length u4, .slice D5 x.f5.length u5, .slice D6 x.f6.length u6] 48)
   simp only [World.size_alloc] at K1
   have HX := Aside0.mk (bx_al K0 (.cells #[.string x.f0, .slice D1 x.f1.length u1, .slice D2 x.f2.length u2, .slice D3 x.f3.length u3, .slice D4 x.f4.length u4, .slice D5 x.f5.length u5, .slice D6 x.f6.length u6] 48))
   have HY := Aside0.mk K1
   clear K0 K1
   go_wp2_with fail
   obtain ⟨kk, hkk⟩ := sameTexts_refl x.f2 (HSx.out.1.2.1)
   refine (sigillaw5_SameTexts.calls kk _ _ x.f2 _ _ x.f2 true _ (Kd.C_below P2.out bel) Np2.out (Kd.C_below Q2.out bel) Nq2.out hkk).mono ?_
   clear hkk
   rintro e w2 ⟨rfl, ⟨mf2, rfl⟩⟩
   go_wp2_with fail
   obtain ⟨kk, hkk⟩ := sameRows_refl x.f5 (HSx.out.1.2.2.2.2.1)
   refine (sigillaw5_sameRows.calls kk _ _ x.f5 _ _ x.f5 true _ (Kd.C_below P5.out bel) Np5.out (Kd.C_below Q5.out bel) Nq5.out hkk).mono ?_
   clear hkk
   rintro e w2 ⟨rfl, ⟨mf5, rfl⟩⟩
   go_wp2_with fail
   obtain ⟨kk, hkk⟩ := sameTexts_refl x.f6 (HSx.out.1.2.2.2.2.2.1)
   refine (sigillaw5_SameTexts.calls kk _ _ x.f6 _ _ x.f6 true _ (Kd.C_below P6.out bel) Np6.out (Kd.C_below Q6.out bel) Nq6.out hkk).mono ?_
   clear hkk
   rintro e w2 ⟨rfl, ⟨mf6, rfl⟩⟩
   go_wp2
   go_loopg [8] x.f1.length (fun kq v8 w' => ∃ j : Int, v8 = .int .i64 j ∧ Aside0 (0 ≤ j ∧ (kq : Int) + j = (x.f1.length : Int)) ∧ Aside0 (Below wo.heap.size wo w') ∧ Aside0 (w'.heap[wo.heap.size]? = some (.cells #[.string x.f0, .slice B1 x.f1.length d1, .slice B2 x.f2.length d2, .slice B3 x.f3.length d3, .slice B4 x.f4.length d4, .slice B5 x.f5.length d5, .slice B6 x.f6.length d6] 48 (0, 0))) ∧ Aside0 (w'.heap[wo.heap.size + 1]? = some (.cells #[.string x.f0, .slice D1 x.f1.length u1, .slice D2 x.f2.length u2, .slice D3 x.f3.length u3, .slice D4 x.f4.length u4, .slice D5 x.f5.length u5, .slice D6 x.f6.length u6] 48 (0, 0))))
   case atStart => exact ⟨0, rfl, ⟨⟨Int.le_refl 0, by omega⟩⟩, ⟨bel⟩, ⟨by repeat (first | with_reducible exact HX.out | with_reducible apply bx_dn | with_reducible apply bx_dr)⟩, ⟨by repeat (first | with_reducible exact HY.out | with_reducible apply bx_dn | with_reducible apply bx_dr)⟩⟩
   case round =>
    obtain ⟨j, rfl, HJ, HBj, HXj, HYj⟩ := hrel
    obtain ⟨px, pxf, pxl⟩ := pcell HXj.out
    obtain ⟨py, pyf, pyl⟩ := pcell HYj.out
    have x0 := px 0 _ rfl
    have y0 := py 0 _ rfl
    have x1 := px 1 _ rfl
    have y1 := py 1 _ rfl
    have x2 := px 2 _ rfl
    have y2 := py 2 _ rfl
    have x3 := px 3 _ rfl
    have y3 := py 3 _ rfl
    have x4 := px 4 _ rfl
    have y4 := py 4 _ rfl
    have x5 := px 5 _ rfl
    have y5 := py 5 _ rfl
    have x6 := px 6 _ rfl
    have y6 := py 6 _ rfl
    clear px pxf py pyf
    cases gk with
    | zero =>
     have hdj : decide (j < (x.f1.length : Int)) = false := decide_eq_false (by have := HJ.out; omega)
     go_wp2_with fail
     refine (sameEnums_eq _ _ _ _ x.f4 _ HSx.out.1.2.2.2.2.2.2 HSx.out.1.2.2.2.1 (Kd.C_below (Kd.C_below P4.out HBj.out) bel) Np4.out (Kd.C_below (Kd.C_below Q4.out HBj.out) bel) Nq4.out).mono ?_
     rintro e w2 ⟨rfl, hB2⟩
     have HX2 := (hB2.block _ pxl).trans HXj.out
     have HY2 := (hB2.block _ pyl).trans HYj.out
     have HB2 := Aside0.mk (below_tr HBj.out HBj.out.size hB2)
     clear x0 y0 x1 y1 x2 y2 x3 y3 x4 y4 x5 y5 x6 y6 hB2
     obtain ⟨px, pxf, pxl2⟩ := pcell HX2
     obtain ⟨py, pyf, pyl2⟩ := pcell HY2
     have x3 : w2.cell? ⟨wo.heap.size, 3, none⟩ = some (.slice B3 x.f3.length d3) := px 3 _ rfl
     have y3 : w2.cell? ⟨wo.heap.size + 1, 3, none⟩ = some (.slice D3 x.f3.length u3) := py 3 _ rfl
     clear px pxf py pyf HX2 HY2
     go_wp2_with fail
     refine (HSx.out.2 _ _ _ _ _ (Kd.C_below (Kd.C_below P3.out HB2.out) bel) Np3.out (Kd.C_below (Kd.C_below Q3.out HB2.out) bel) Nq3.out).mono ?_
     rintro e w3 ⟨rfl, hB3⟩
     have HB3 := Aside0.mk (below_tr HB2.out HB2.out.size hB3)
     clear hB3
     go_wp2
     go_roundg k1
     case measure => have := HK.out; omega
     case rel => exact ⟨wrap64 (i + 1), by first | rfl | (simp; done), ⟨by rw [w64_in _ (by have := HK.out; have := HLl.out; omega)]; have := HK.out; omega⟩, ⟨below_tr HB.out HB.out.size HB3.out⟩⟩
    | succ k2 =>
     have hj0 : 0 ≤ j := HJ.out.1
     have hj1 : j < (x.f1.length : Int) := by have := HJ.out; omega
     have hdj : decide (j < (x.f1.length : Int)) = true := decide_eq_true hj1
     obtain ⟨ae, ee, ec0, ec1, ec2, ec3, ec4, ec5⟩ := at_T44 (Kd.C_below P1.out HBj.out) j hj0 hj1
     cases ee
     obtain ⟨af, ef, fc0, fc1, fc2, fc3, fc4, fc5⟩ := at_T44 (Kd.C_below Q1.out HBj.out) j hj0 hj1
     cases ef
     replace hj0 := eq_true hj0
     replace hj1 := eq_true hj1
     go_wp2
     repeat (go_quiet (fail); try go_wp2)
     go_roundg k2
     case measure => have := HJ.out; omega
     case rel => exact ⟨wrap64 (j + 1), by first | rfl | (simp; done), ⟨by rw [w64_in _ (by have := HJ.out; have := HSx.out; unfold lensM at this; omega)]; have := HJ.out; omega⟩, ⟨by with_reducible repeat (first | exact HBj.out | apply Below.drewN_ | apply Below.drew_)⟩, ⟨by repeat (first | with_reducible exact HXj.out | with_reducible apply bx_dn | with_reducible apply bx_dr)⟩, ⟨by repeat (first | with_reducible exact HYj.out | with_reducible apply bx_dn | with_reducible apply bx_dr)⟩⟩
theorem sameMessages_eq : ∀ (d : Nat) (l : List PMsg), l.length < 4611686018427387904 → (∀ x ∈ l, smallM d x) → MsgEq l
 | 0, l, hl, hs => fun A0 c0 A1 c1 w h0 h1 h2 h3 => sameMessages_step A0 c0 A1 c1 l w (fun x hx => (hs x hx).elim) hl h0 h1 h2 h3
 | d + 1, l, hl, hs => fun A0 c0 A1 c1 w h0 h1 h2 h3 => sameMessages_step A0 c0 A1 c1 l w (fun x hx => ⟨(hs x hx).1, sameMessages_eq d x.f3 (hs x hx).1.2.2.1 (hs x hx).2⟩) hl h0 h1 h2 h3
theorem R_box {α : Type} (d : Kd α) {W : World} (base e : Nat) {okp : Nat → Prop} {x : α} {cs : List Value} (h : d.M W base okp x cs) (hb : base ≤ W.heap.size) : d.R e (W.alloc (.cells cs.toArray e)) base (fun _ => True) (.slice (some ⟨W.heap.size, 0, none⟩) 1 1) [x] := by
 have hlen : cs.length = d.sz := d.K_len (d.K_of_M h)
 refine ⟨fun _ _ => trivial, cs, ?_, ?_⟩
 ·have h2 := World.ownsRow_lit (base := base) (e := e) (size := d.sz) W cs.toArray 1 hb (by simp [maxLen]) (by simpa using hlen)
  simpa using h2
 ·refine (Reps.none _ _).snoc (ps := []) (cs := []) (d.M_mono (fun k hk => ⟨trivial, fun he => ?_⟩) (Kd.M_below (d.M_bound h) (below_alloc (Below.refl _ _) _))) hlen
  have h3 : k = W.heap.size := by simpa [Value.ownBlock] using he
  have := hk.2.2.1
  omega
def smallF (d : Nat) (f : PFile) : Prop := f.f1.length < 4611686018427387904 ∧ f.f2.length < 4611686018427387904 ∧ f.f3.length < 4611686018427387904 ∧ (∀ x ∈ f.f2, smallM d x) ∧ (∀ x ∈ f.f3, smallE x)
set_option maxHeartbeats 8000000 in
set_option maxRecDepth 100000 in
theorem sameFile_eq (d : Nat) (f : PFile) (hs : smallF d f) (A1 A2 A3 B1 B2 B3 : Option Addr) (c1 c2 c3 d1 d2 d3 : Nat) (w : World) (p1 : Kd.C Kd.string w A1 f.f1.length f.f1) (p2 : Kd.C k48 w A2 f.f2.length f.f2) (p3 : Kd.C k77 w A3 f.f3.length f.f3) (q1 : Kd.C Kd.string w B1 f.f1.length f.f1) (q2 : Kd.C k48 w B2 f.f2.length f.f2) (q3 : Kd.C k77 w B3 f.f3.length f.f3)
  (m1 : f.f1.length ≤ c1) (m2 : f.f2.length ≤ c2) (m3 : f.f3.length ≤ c3) (n1 : f.f1.length ≤ d1) (n2 : f.f2.length ≤ d2) (n3 : f.f3.length ≤ d3) :
  Calls Tryd.prog 11 #[.agg #[.string f.f0, .slice A1 f.f1.length c1, .slice A2 f.f2.length c2, .slice A3 f.f3.length c3], .agg #[.string f.f0, .slice B1 f.f1.length d1, .slice B2 f.f2.length d2, .slice B3 f.f3.length d3]] w fun e w' => e = .returned (.bool true) ∧ Below w.heap.size w w' := by
 have HS := Aside0.mk hs
 have P1 := Aside0.mk p1
 have Q1 := Aside0.mk q1
 have M1 := Aside0.mk m1
 have N1 := Aside0.mk n1
 have P2 := Aside0.mk p2
 have Q2 := Aside0.mk q2
 have M2 := Aside0.mk m2
 have N2 := Aside0.mk n2
 have P3 := Aside0.mk p3
 have Q3 := Aside0.mk q3
 have M3 := Aside0.mk m3
 have N3 := Aside0.mk n3
 have K0 := blk_new w (.cells #[.string f.f0, .slice A1 f.f1.length c1, .slice A2 f.f2.length c2, .slice A3 f.f3.length c3] 29)
 have K1 := blk_new (w.alloc (.cells #[.string f.f0, .slice A1 f.f1.length c1, .slice A2 f.f2.length c2, .slice A3 f.f3.length c3] 29)) (.cells #[.string f.f0, .slice B1 f.f1.length d1, .slice B2 f.f2.length d2, .slice B3 f.f3.length d3] 29)
 simp only [World.size_alloc] at K1
 have HX := Aside0.mk (bx_al K0 (.cells #[.string f.f0, .slice B1 f.f1.length d1, .slice B2 f.f2.length d2, .slice B3 f.f3.length d3] 29))
 have HY := Aside0.mk K1
 clear hs p1 p2 p3 q1 q2 q3 m1 m2 m3 n1 n2 n3 K0 K1
 go_enter Tryd.func11, Tryd.ntmps11
 go_wp2_with fail
 obtain ⟨kk, hkk⟩ := sameTexts_refl f.f1 HS.out.1
 refine (sigillaw5_SameTexts.calls kk _ _ f.f1 _ _ f.f1 true _ (Kd.C_below P1.out bel) M1.out (Kd.C_below Q1.out bel) N1.out hkk).mono ?_
 clear hkk
 rintro e w1 ⟨rfl, ⟨m1, rfl⟩⟩
 go_wp2_with fail
 refine (sameMessages_eq d f.f2 HS.out.2.1 HS.out.2.2.2.1 _ _ _ _ _ (Kd.C_below P2.out bel) M2.out (Kd.C_below Q2.out bel) N2.out).mono ?_
 rintro e w2 ⟨rfl, hB2⟩
 have hb0 : Below w.heap.size w ((((w.alloc (.cells #[.string f.f0, .slice A1 f.f1.length c1, .slice A2 f.f2.length c2, .slice A3 f.f3.length c3] 29)).alloc (.cells #[.string f.f0, .slice B1 f.f1.length d1, .slice B2 f.f2.length d2, .slice B3 f.f3.length d3] 29))).drewN m1) := bel
 have HB2 := Aside0.mk (below_tr hb0 hb0.size hB2)
 obtain ⟨px, pxf, pxl⟩ := pcell ((hB2.block _ (by simp; omega)).trans (bx_dn HX.out m1))
 obtain ⟨py, pyf, pyl⟩ := pcell ((hB2.block _ (by simp)).trans (bx_dn HY.out m1))
 have x3 : w2.cell? ⟨w.heap.size, 3, none⟩ = some (.slice A3 f.f3.length c3) := px 3 _ rfl
 have y3 : w2.cell? ⟨w.heap.size + 1, 3, none⟩ = some (.slice B3 f.f3.length d3) := py 3 _ rfl
 clear px pxf py pyf hB2 hb0
 go_wp2_with fail
 refine (sameEnums_eq _ _ _ _ f.f3 _ HS.out.2.2.2.2 HS.out.2.2.1 (Kd.C_below P3.out HB2.out) M3.out (Kd.C_below Q3.out HB2.out) N3.out).mono ?_
 rintro e w3 ⟨rfl, hB3⟩
 have HB3 := Aside0.mk (below_tr HB2.out HB2.out.size hB3)
 clear hB3
 go_wp2
 go_ret
 exact ⟨rfl, HB3.out⟩
def wantFld : PField := ⟨1, ⟨#[]⟩, ⟨#[105, 110, 116, 51, 50]⟩, ⟨#[97]⟩, 1, 0⟩
def wantMsg : PMsg := ⟨⟨#[77]⟩, [wantFld], [], [], [], [], []⟩
def wantF : PFile := ⟨⟨#[97, 46, 98]⟩, [⟨#[120, 46, 112, 114, 111, 116, 111]⟩], [wantMsg], []⟩
theorem LaidW.al {W : World} (h : LaidW W) (o : Obj) : LaidW (W.alloc o) := h.ch (Ch.alloc (Ch.refl (fun _ => False) W) o) (fun h => h) (fun h => h)
theorem small_want : smallF 2 wantF := by
 refine ⟨by decide, by decide, by decide, ?_, fun x hx => by cases hx⟩
 intro x hx
 simp only [wantF, List.mem_singleton] at hx
 subst hx
 exact ⟨⟨by decide, by decide, by decide, by decide, by decide, by decide, fun y hy => by cases hy⟩, fun y hy => by cases hy⟩
set_option maxHeartbeats 8000000 in
set_option maxRecDepth 100000 in
theorem known_calls (W : World) (hL : LaidW W) : Calls Tryd.prog 6 #[] W fun e w' => e = .returned (.bool true) ∧ Below W.heap.size W w' := by
 have HL := Aside0.mk hL
 have hx0 : ∀ (u v : Value) (w : World), (Instr.extract (.tuple #[u, v]) 0).run Tryd.prog w = .ok u w := fun u v w => by kernel_rfl
 have hx1 : ∀ (u v : Value) (w : World), (Instr.extract (.tuple #[u, v]) 1).run Tryd.prog w = .ok v w := fun u v w => by kernel_rfl
 have hq1 : ∀ (w : World), (binOp .eql 32 (.agg #[.int .i64 0, .int .i64 0, .int .i64 0, .string ⟨#[]⟩]) (.agg #[.int .i64 0, .int .i64 0, .int .i64 0, .string ⟨#[]⟩])).run Tryd.prog w = .ok (.bool true) w := fun w => by kernel_rfl
 have hq2 : ∀ (w : World), (binOp .eql 32 (.agg #[.int .i64 52, .int .i64 0, .int .i64 19, .string ⟨#[]⟩]) (.agg #[.int .i64 52, .int .i64 0, .int .i64 19, .string ⟨#[]⟩])).run Tryd.prog w = .ok (.bool true) w := fun w => by kernel_rfl
 clear hL
 go_enter Tryd.func6, Tryd.ntmps6
 go_wp2_with fail
 refine (parse_calls 100 _ (wantF, 0, 0) (by kernel_rfl) _ HL.out).mono ?_
 rintro e wa ⟨v1, v2, v3, rfl, r1, r2, r3, hC⟩
 obtain ⟨A1, c1, rfl, m1, p1⟩ := Kd.R_reads r1
 obtain ⟨A2, c2, rfl, m2, p2⟩ := Kd.R_reads r2
 obtain ⟨A3, c3, rfl, m3, p3⟩ := Kd.R_reads r3
 have HLa := Aside0.mk (HL.out.ch hC (fun h => h) (fun h => h))
 have HCa := Aside0.mk hC
 have P1 := Aside0.mk p1
 have P2 := Aside0.mk p2
 have P3 := Aside0.mk p3
 have M1 := Aside0.mk m1
 have M2 := Aside0.mk m2
 have M3 := Aside0.mk m3
 clear hC p1 p2 p3 m1 m2 m3 r1 r2 r3
 go_wp2_with fail
 have hS := R_box Kd.string (W := ((wa.alloc (.cells #[.string wantF.f0, .slice A1 wantF.f1.length c1, .slice A2 wantF.f2.length c2, .slice A3 wantF.f3.length c3] 29)).alloc (.cells #[.int .i64 0, .int .i64 0, .int .i64 0, .string ⟨#[]⟩] 32))) 0 9 (okp := fun _ => True) (x := ⟨#[120, 46, 112, 114, 111, 116, 111]⟩) (cs := [.string ⟨#[120, 46, 112, 114, 111, 116, 111]⟩]) rfl (Nat.zero_le _)
 have hL := R_box k44 (W := (((wa.alloc (.cells #[.string wantF.f0, .slice A1 wantF.f1.length c1, .slice A2 wantF.f2.length c2, .slice A3 wantF.f3.length c3] 29)).alloc (.cells #[.int .i64 0, .int .i64 0, .int .i64 0, .string ⟨#[]⟩] 32)).alloc (.cells #[.string ⟨#[120, 46, 112, 114, 111, 116, 111]⟩] 9))) 0 44 (k44_mkM (((wa.alloc (.cells #[.string wantF.f0, .slice A1 wantF.f1.length c1, .slice A2 wantF.f2.length c2, .slice A3 wantF.f3.length c3] 29)).alloc (.cells #[.int .i64 0, .int .i64 0, .int .i64 0, .string ⟨#[]⟩] 32)).alloc (.cells #[.string ⟨#[120, 46, 112, 114, 111, 116, 111]⟩] 9)) 0 (fun _ => True) wantFld) (Nat.zero_le _)
 have hM := R_box k48 (W := ((((wa.alloc (.cells #[.string wantF.f0, .slice A1 wantF.f1.length c1, .slice A2 wantF.f2.length c2, .slice A3 wantF.f3.length c3] 29)).alloc (.cells #[.int .i64 0, .int .i64 0, .int .i64 0, .string ⟨#[]⟩] 32)).alloc (.cells #[.string ⟨#[120, 46, 112, 114, 111, 116, 111]⟩] 9)).alloc (.cells #[.int .i64 1, .string ⟨#[]⟩, .string ⟨#[105, 110, 116, 51, 50]⟩, .string ⟨#[97]⟩, .int .i64 1, .int .i64 0] 44))) 0 48 (k48_mkM ((((wa.alloc (.cells #[.string wantF.f0, .slice A1 wantF.f1.length c1, .slice A2 wantF.f2.length c2, .slice A3 wantF.f3.length c3] 29)).alloc (.cells #[.int .i64 0, .int .i64 0, .int .i64 0, .string ⟨#[]⟩] 32)).alloc (.cells #[.string ⟨#[120, 46, 112, 114, 111, 116, 111]⟩] 9)).alloc (.cells #[.int .i64 1, .string ⟨#[]⟩, .string ⟨#[105, 110, 116, 51, 50]⟩, .string ⟨#[97]⟩, .int .i64 1, .int .i64 0] 44)) 0 (fun _ => True) wantMsg hL (Kd.R_nil _ _ _ _ _) (Kd.R_nil _ _ _ _ _) (Kd.R_nil _ _ _ _ _) (Kd.R_nil _ _ _ _ _) (Kd.R_nil _ _ _ _ _)) (Nat.zero_le _)
 have cS := (Kd.R_reads' hS).2.2
 have cM := (Kd.R_reads' hM).2.2
 simp only [World.size_alloc] at cS cM
 have k1 := bx_al (bx_al (bx_al (bx_al (bx_al (blk_new wa (.cells #[.string wantF.f0, .slice A1 wantF.f1.length c1, .slice A2 wantF.f2.length c2, .slice A3 wantF.f3.length c3] 29)) (.cells #[.int .i64 0, .int .i64 0, .int .i64 0, .string ⟨#[]⟩] 32)) (.cells #[.string ⟨#[120, 46, 112, 114, 111, 116, 111]⟩] 9)) (.cells #[.int .i64 1, .string ⟨#[]⟩, .string ⟨#[105, 110, 116, 51, 50]⟩, .string ⟨#[97]⟩, .int .i64 1, .int .i64 0] 44)) (.cells #[.string ⟨#[77]⟩, .slice (some ⟨wa.heap.size + 1 + 1 + 1, 0, none⟩) 1 1, .slice none 0 0, .slice none 0 0, .slice none 0 0, .slice none 0 0, .slice none 0 0] 48)) (.cells #[.string ⟨#[97, 46, 98]⟩, .slice (some ⟨wa.heap.size + 1 + 1, 0, none⟩) 1 1, .slice (some ⟨wa.heap.size + 1 + 1 + 1 + 1, 0, none⟩) 1 1, .slice none 0 0] 29)
 have k2 := bx_al (bx_al (bx_al (bx_al (blk_new (wa.alloc (.cells #[.string wantF.f0, .slice A1 wantF.f1.length c1, .slice A2 wantF.f2.length c2, .slice A3 wantF.f3.length c3] 29)) (.cells #[.int .i64 0, .int .i64 0, .int .i64 0, .string ⟨#[]⟩] 32)) (.cells #[.string ⟨#[120, 46, 112, 114, 111, 116, 111]⟩] 9)) (.cells #[.int .i64 1, .string ⟨#[]⟩, .string ⟨#[105, 110, 116, 51, 50]⟩, .string ⟨#[97]⟩, .int .i64 1, .int .i64 0] 44)) (.cells #[.string ⟨#[77]⟩, .slice (some ⟨wa.heap.size + 1 + 1 + 1, 0, none⟩) 1 1, .slice none 0 0, .slice none 0 0, .slice none 0 0, .slice none 0 0, .slice none 0 0] 48)) (.cells #[.string ⟨#[97, 46, 98]⟩, .slice (some ⟨wa.heap.size + 1 + 1, 0, none⟩) 1 1, .slice (some ⟨wa.heap.size + 1 + 1 + 1 + 1, 0, none⟩) 1 1, .slice none 0 0] 29)
 have k3 := blk_new (((((wa.alloc (.cells #[.string wantF.f0, .slice A1 wantF.f1.length c1, .slice A2 wantF.f2.length c2, .slice A3 wantF.f3.length c3] 29)).alloc (.cells #[.int .i64 0, .int .i64 0, .int .i64 0, .string ⟨#[]⟩] 32)).alloc (.cells #[.string ⟨#[120, 46, 112, 114, 111, 116, 111]⟩] 9)).alloc (.cells #[.int .i64 1, .string ⟨#[]⟩, .string ⟨#[105, 110, 116, 51, 50]⟩, .string ⟨#[97]⟩, .int .i64 1, .int .i64 0] 44)).alloc (.cells #[.string ⟨#[77]⟩, .slice (some ⟨wa.heap.size + 1 + 1 + 1, 0, none⟩) 1 1, .slice none 0 0, .slice none 0 0, .slice none 0 0, .slice none 0 0, .slice none 0 0] 48)) (.cells #[.string ⟨#[97, 46, 98]⟩, .slice (some ⟨wa.heap.size + 1 + 1, 0, none⟩) 1 1, .slice (some ⟨wa.heap.size + 1 + 1 + 1 + 1, 0, none⟩) 1 1, .slice none 0 0] 29)
 simp only [World.size_alloc] at k2 k3
 have CS := Aside0.mk (Kd.C_below cS (show Below (((wa.alloc (.cells #[.string wantF.f0, .slice A1 wantF.f1.length c1, .slice A2 wantF.f2.length c2, .slice A3 wantF.f3.length c3] 29)).alloc (.cells #[.int .i64 0, .int .i64 0, .int .i64 0, .string ⟨#[]⟩] 32)).alloc (.cells #[.string ⟨#[120, 46, 112, 114, 111, 116, 111]⟩] 9)).heap.size (((wa.alloc (.cells #[.string wantF.f0, .slice A1 wantF.f1.length c1, .slice A2 wantF.f2.length c2, .slice A3 wantF.f3.length c3] 29)).alloc (.cells #[.int .i64 0, .int .i64 0, .int .i64 0, .string ⟨#[]⟩] 32)).alloc (.cells #[.string ⟨#[120, 46, 112, 114, 111, 116, 111]⟩] 9)) ((((((wa.alloc (.cells #[.string wantF.f0, .slice A1 wantF.f1.length c1, .slice A2 wantF.f2.length c2, .slice A3 wantF.f3.length c3] 29)).alloc (.cells #[.int .i64 0, .int .i64 0, .int .i64 0, .string ⟨#[]⟩] 32)).alloc (.cells #[.string ⟨#[120, 46, 112, 114, 111, 116, 111]⟩] 9)).alloc (.cells #[.int .i64 1, .string ⟨#[]⟩, .string ⟨#[105, 110, 116, 51, 50]⟩, .string ⟨#[97]⟩, .int .i64 1, .int .i64 0] 44)).alloc (.cells #[.string ⟨#[77]⟩, .slice (some ⟨wa.heap.size + 1 + 1 + 1, 0, none⟩) 1 1, .slice none 0 0, .slice none 0 0, .slice none 0 0, .slice none 0 0, .slice none 0 0] 48)).alloc (.cells #[.string ⟨#[97, 46, 98]⟩, .slice (some ⟨wa.heap.size + 1 + 1, 0, none⟩) 1 1, .slice (some ⟨wa.heap.size + 1 + 1 + 1 + 1, 0, none⟩) 1 1, .slice none 0 0] 29)) from bel))
 have CM := Aside0.mk (Kd.C_below cM (show Below (((((wa.alloc (.cells #[.string wantF.f0, .slice A1 wantF.f1.length c1, .slice A2 wantF.f2.length c2, .slice A3 wantF.f3.length c3] 29)).alloc (.cells #[.int .i64 0, .int .i64 0, .int .i64 0, .string ⟨#[]⟩] 32)).alloc (.cells #[.string ⟨#[120, 46, 112, 114, 111, 116, 111]⟩] 9)).alloc (.cells #[.int .i64 1, .string ⟨#[]⟩, .string ⟨#[105, 110, 116, 51, 50]⟩, .string ⟨#[97]⟩, .int .i64 1, .int .i64 0] 44)).alloc (.cells #[.string ⟨#[77]⟩, .slice (some ⟨wa.heap.size + 1 + 1 + 1, 0, none⟩) 1 1, .slice none 0 0, .slice none 0 0, .slice none 0 0, .slice none 0 0, .slice none 0 0] 48)).heap.size (((((wa.alloc (.cells #[.string wantF.f0, .slice A1 wantF.f1.length c1, .slice A2 wantF.f2.length c2, .slice A3 wantF.f3.length c3] 29)).alloc (.cells #[.int .i64 0, .int .i64 0, .int .i64 0, .string ⟨#[]⟩] 32)).alloc (.cells #[.string ⟨#[120, 46, 112, 114, 111, 116, 111]⟩] 9)).alloc (.cells #[.int .i64 1, .string ⟨#[]⟩, .string ⟨#[105, 110, 116, 51, 50]⟩, .string ⟨#[97]⟩, .int .i64 1, .int .i64 0] 44)).alloc (.cells #[.string ⟨#[77]⟩, .slice (some ⟨wa.heap.size + 1 + 1 + 1, 0, none⟩) 1 1, .slice none 0 0, .slice none 0 0, .slice none 0 0, .slice none 0 0, .slice none 0 0] 48)) ((((((wa.alloc (.cells #[.string wantF.f0, .slice A1 wantF.f1.length c1, .slice A2 wantF.f2.length c2, .slice A3 wantF.f3.length c3] 29)).alloc (.cells #[.int .i64 0, .int .i64 0, .int .i64 0, .string ⟨#[]⟩] 32)).alloc (.cells #[.string ⟨#[120, 46, 112, 114, 111, 116, 111]⟩] 9)).alloc (.cells #[.int .i64 1, .string ⟨#[]⟩, .string ⟨#[105, 110, 116, 51, 50]⟩, .string ⟨#[97]⟩, .int .i64 1, .int .i64 0] 44)).alloc (.cells #[.string ⟨#[77]⟩, .slice (some ⟨wa.heap.size + 1 + 1 + 1, 0, none⟩) 1 1, .slice none 0 0, .slice none 0 0, .slice none 0 0, .slice none 0 0, .slice none 0 0] 48)).alloc (.cells #[.string ⟨#[97, 46, 98]⟩, .slice (some ⟨wa.heap.size + 1 + 1, 0, none⟩) 1 1, .slice (some ⟨wa.heap.size + 1 + 1 + 1 + 1, 0, none⟩) 1 1, .slice none 0 0] 29)) from bel))
 have KK1 := Aside0.mk k1
 have KK2 := Aside0.mk k2
 have KK3 := Aside0.mk k3
 have HLk := Aside0.mk ((((((HLa.out.al (.cells #[.string wantF.f0, .slice A1 wantF.f1.length c1, .slice A2 wantF.f2.length c2, .slice A3 wantF.f3.length c3] 29)).al (.cells #[.int .i64 0, .int .i64 0, .int .i64 0, .string ⟨#[]⟩] 32)).al (.cells #[.string ⟨#[120, 46, 112, 114, 111, 116, 111]⟩] 9)).al (.cells #[.int .i64 1, .string ⟨#[]⟩, .string ⟨#[105, 110, 116, 51, 50]⟩, .string ⟨#[97]⟩, .int .i64 1, .int .i64 0] 44)).al (.cells #[.string ⟨#[77]⟩, .slice (some ⟨wa.heap.size + 1 + 1 + 1, 0, none⟩) 1 1, .slice none 0 0, .slice none 0 0, .slice none 0 0, .slice none 0 0, .slice none 0 0] 48)).al (.cells #[.string ⟨#[97, 46, 98]⟩, .slice (some ⟨wa.heap.size + 1 + 1, 0, none⟩) 1 1, .slice (some ⟨wa.heap.size + 1 + 1 + 1 + 1, 0, none⟩) 1 1, .slice none 0 0] 29))
 have HWk := Aside0.mk (show Below wa.heap.size wa ((((((wa.alloc (.cells #[.string wantF.f0, .slice A1 wantF.f1.length c1, .slice A2 wantF.f2.length c2, .slice A3 wantF.f3.length c3] 29)).alloc (.cells #[.int .i64 0, .int .i64 0, .int .i64 0, .string ⟨#[]⟩] 32)).alloc (.cells #[.string ⟨#[120, 46, 112, 114, 111, 116, 111]⟩] 9)).alloc (.cells #[.int .i64 1, .string ⟨#[]⟩, .string ⟨#[105, 110, 116, 51, 50]⟩, .string ⟨#[97]⟩, .int .i64 1, .int .i64 0] 44)).alloc (.cells #[.string ⟨#[77]⟩, .slice (some ⟨wa.heap.size + 1 + 1 + 1, 0, none⟩) 1 1, .slice none 0 0, .slice none 0 0, .slice none 0 0, .slice none 0 0, .slice none 0 0] 48)).alloc (.cells #[.string ⟨#[97, 46, 98]⟩, .slice (some ⟨wa.heap.size + 1 + 1, 0, none⟩) 1 1, .slice (some ⟨wa.heap.size + 1 + 1 + 1 + 1, 0, none⟩) 1 1, .slice none 0 0] 29)) from bel)
 have HSz := Aside0.mk (show ((((((wa.alloc (.cells #[.string wantF.f0, .slice A1 wantF.f1.length c1, .slice A2 wantF.f2.length c2, .slice A3 wantF.f3.length c3] 29)).alloc (.cells #[.int .i64 0, .int .i64 0, .int .i64 0, .string ⟨#[]⟩] 32)).alloc (.cells #[.string ⟨#[120, 46, 112, 114, 111, 116, 111]⟩] 9)).alloc (.cells #[.int .i64 1, .string ⟨#[]⟩, .string ⟨#[105, 110, 116, 51, 50]⟩, .string ⟨#[97]⟩, .int .i64 1, .int .i64 0] 44)).alloc (.cells #[.string ⟨#[77]⟩, .slice (some ⟨wa.heap.size + 1 + 1 + 1, 0, none⟩) 1 1, .slice none 0 0, .slice none 0 0, .slice none 0 0, .slice none 0 0, .slice none 0 0] 48)).alloc (.cells #[.string ⟨#[97, 46, 98]⟩, .slice (some ⟨wa.heap.size + 1 + 1, 0, none⟩) 1 1, .slice (some ⟨wa.heap.size + 1 + 1 + 1 + 1, 0, none⟩) 1 1, .slice none 0 0] 29)).heap.size = wa.heap.size + 6 by simp)
 clear hS hL hM cS cM k1 k2 k3
 refine (parse_calls 100 _ (Pm.zfile, 52, 19) (by kernel_rfl) _ HLk.out).mono ?_
 rintro e w2 ⟨v4, v5, v6, rfl, s1, s2, s3, hC⟩
 obtain ⟨A4, n4, c4, rfl⟩ := R_slice3 s1
 obtain ⟨A5, n5, c5, rfl⟩ := R_slice3 s2
 obtain ⟨A6, n6, c6, rfl⟩ := R_slice3 s3
 have hB2 : Below ((((((wa.alloc (.cells #[.string wantF.f0, .slice A1 wantF.f1.length c1, .slice A2 wantF.f2.length c2, .slice A3 wantF.f3.length c3] 29)).alloc (.cells #[.int .i64 0, .int .i64 0, .int .i64 0, .string ⟨#[]⟩] 32)).alloc (.cells #[.string ⟨#[120, 46, 112, 114, 111, 116, 111]⟩] 9)).alloc (.cells #[.int .i64 1, .string ⟨#[]⟩, .string ⟨#[105, 110, 116, 51, 50]⟩, .string ⟨#[97]⟩, .int .i64 1, .int .i64 0] 44)).alloc (.cells #[.string ⟨#[77]⟩, .slice (some ⟨wa.heap.size + 1 + 1 + 1, 0, none⟩) 1 1, .slice none 0 0, .slice none 0 0, .slice none 0 0, .slice none 0 0, .slice none 0 0] 48)).alloc (.cells #[.string ⟨#[97, 46, 98]⟩, .slice (some ⟨wa.heap.size + 1 + 1, 0, none⟩) 1 1, .slice (some ⟨wa.heap.size + 1 + 1 + 1 + 1, 0, none⟩) 1 1, .slice none 0 0] 29)).heap.size ((((((wa.alloc (.cells #[.string wantF.f0, .slice A1 wantF.f1.length c1, .slice A2 wantF.f2.length c2, .slice A3 wantF.f3.length c3] 29)).alloc (.cells #[.int .i64 0, .int .i64 0, .int .i64 0, .string ⟨#[]⟩] 32)).alloc (.cells #[.string ⟨#[120, 46, 112, 114, 111, 116, 111]⟩] 9)).alloc (.cells #[.int .i64 1, .string ⟨#[]⟩, .string ⟨#[105, 110, 116, 51, 50]⟩, .string ⟨#[97]⟩, .int .i64 1, .int .i64 0] 44)).alloc (.cells #[.string ⟨#[77]⟩, .slice (some ⟨wa.heap.size + 1 + 1 + 1, 0, none⟩) 1 1, .slice none 0 0, .slice none 0 0, .slice none 0 0, .slice none 0 0, .slice none 0 0] 48)).alloc (.cells #[.string ⟨#[97, 46, 98]⟩, .slice (some ⟨wa.heap.size + 1 + 1, 0, none⟩) 1 1, .slice (some ⟨wa.heap.size + 1 + 1 + 1 + 1, 0, none⟩) 1 1, .slice none 0 0] 29)) w2 := hC.below (fun _ _ h => h) (Nat.le_refl _)
 have HB2 := Aside0.mk hB2
 have hsz2 : wa.heap.size + 6 ≤ w2.heap.size := by have := hB2.size; have := HSz.out; omega
 obtain ⟨px, pxf, pxl⟩ := pcell ((hB2.block _ (by have := HSz.out; omega)).trans KK1.out)
 obtain ⟨py, pyf, pyl⟩ := pcell ((hB2.block _ (by have := HSz.out; omega)).trans KK2.out)
 obtain ⟨pz, pzf, pzl⟩ := pcell ((hB2.block _ (by have := HSz.out; omega)).trans KK3.out)
 have x0 : w2.cell? ⟨wa.heap.size, 0, none⟩ = some (.string wantF.f0) := px 0 _ rfl
 have x1 : w2.cell? ⟨wa.heap.size, 1, none⟩ = some (.slice A1 wantF.f1.length c1) := px 1 _ rfl
 have x2 : w2.cell? ⟨wa.heap.size, 2, none⟩ = some (.slice A2 wantF.f2.length c2) := px 2 _ rfl
 have x3 : w2.cell? ⟨wa.heap.size, 3, none⟩ = some (.slice A3 wantF.f3.length c3) := px 3 _ rfl
 have y0 : w2.cell? ⟨wa.heap.size + 1, 0, none⟩ = some (.int .i64 0) := py 0 _ rfl
 have y1 : w2.cell? ⟨wa.heap.size + 1, 1, none⟩ = some (.int .i64 0) := py 1 _ rfl
 have y2 : w2.cell? ⟨wa.heap.size + 1, 2, none⟩ = some (.int .i64 0) := py 2 _ rfl
 have y3 : w2.cell? ⟨wa.heap.size + 1, 3, none⟩ = some (.string ⟨#[]⟩) := py 3 _ rfl
 have z0 : w2.cell? ⟨wa.heap.size + 1 + 1 + 1 + 1 + 1, 0, none⟩ = some (.string ⟨#[97, 46, 98]⟩) := pz 0 _ rfl
 have z1 : w2.cell? ⟨wa.heap.size + 1 + 1 + 1 + 1 + 1, 1, none⟩ = some (.slice (some ⟨wa.heap.size + 1 + 1, 0, none⟩) 1 1) := pz 1 _ rfl
 have z2 : w2.cell? ⟨wa.heap.size + 1 + 1 + 1 + 1 + 1, 2, none⟩ = some (.slice (some ⟨wa.heap.size + 1 + 1 + 1 + 1, 0, none⟩) 1 1) := pz 2 _ rfl
 have z3 : w2.cell? ⟨wa.heap.size + 1 + 1 + 1 + 1 + 1, 3, none⟩ = some (.slice none 0 0) := pz 3 _ rfl
 have k5 := blk_new (w2.alloc (.cells #[.string ⟨#[]⟩, .slice A4 n4 c4, .slice A5 n5 c5, .slice A6 n6 c6] 29)) (.cells #[.int .i64 52, .int .i64 0, .int .i64 19, .string ⟨#[]⟩] 32)
 simp only [World.size_alloc] at k5
 have KK5 := Aside0.mk k5
 have HC2 := Aside0.mk (Below.refl w2.heap.size w2)
 have hl3 : wa.heap.size + 1 + 1 + 1 + 1 + 1 < w2.heap.size := by omega
 have hl4 : wa.heap.size + 1 + 1 + 1 + 1 < w2.heap.size := by omega
 have hl2 : wa.heap.size + 1 < w2.heap.size := by omega
 have hl1 : wa.heap.size < w2.heap.size := by omega
 clear px pxf py pyf pz pzf s1 s2 s3 hC hB2 k5
 go_wp2_with fail
 have HW2 := Aside0.mk (below_tr HWk.out HWk.out.size HB2.out)
 refine (sameFile_eq 2 wantF small_want A1 A2 A3 _ _ _ c1 c2 c3 _ _ _ _ (Kd.C_below (Kd.C_below P1.out HW2.out) bel) (Kd.C_below (Kd.C_below P2.out HW2.out) bel) (Kd.C_below (Kd.C_below P3.out HW2.out) bel) (Kd.C_below (Kd.C_below CS.out HB2.out) bel) (Kd.C_below (Kd.C_below CM.out HB2.out) bel) (Kd.C_nil _ _) M1.out M2.out M3.out (Nat.le_refl 1) (Nat.le_refl 1) (Nat.le_refl 0)).mono ?_
 rintro e w3 ⟨rfl, hB3⟩
 have hk3 := (hB3.block (w2.heap.size + 1) (by simp)).trans KK5.out
 have HB3 := Aside0.mk (show Below w2.heap.size w2 w3 from below_tr (below_alloc (below_alloc (Below.refl _ _) _) _) (by simp; omega) hB3)
 obtain ⟨pt, ptf, ptl⟩ := pcell hk3
 have t0 : w3.cell? ⟨w2.heap.size + 1, 0, none⟩ = some (.int .i64 52) := pt 0 _ rfl
 have t1 : w3.cell? ⟨w2.heap.size + 1, 1, none⟩ = some (.int .i64 0) := pt 1 _ rfl
 have t2 : w3.cell? ⟨w2.heap.size + 1, 2, none⟩ = some (.int .i64 19) := pt 2 _ rfl
 have t3 : w3.cell? ⟨w2.heap.size + 1, 3, none⟩ = some (.string ⟨#[]⟩) := pt 3 _ rfl
 clear pt ptf hk3 hB3
 go_wp2
 go_ret
 exact ⟨rfl, below_tr (below_tr (HCa.out.below (fun _ _ h => h) (Nat.le_refl _)) HCa.out.size HW2.out) (Nat.le_trans HCa.out.size HW2.out.size) HB3.out⟩
def Tot {α : Type} (f : Nat → Option (PR α)) (G : α → PS → Prop) : Prop := ∃ r, Ev f r ∧ ∀ a s', r = .ok (a, s') → G a s'
theorem Tot.bo {α β : Type} {f : Nat → Option (PR α)} {g : Nat → α → PS → Option (PR β)} {G : α → PS → Prop} {H : β → PS → Prop} (hf : Tot f G) (hg : ∀ a s', G a s' → Tot (fun k => g k a s') H) : Tot (fun k => Pm.bo (f k) (g k)) H := by
 obtain ⟨r, ⟨K, hr⟩, hG⟩ := hf
 rcases r with x | ⟨a, s'⟩
 ·exact ⟨.error x, ⟨K, fun k hk => by show Pm.bo (f k) _ = _; rw [hr k hk]; rfl⟩, fun _ _ e => nomatch e⟩
 ·obtain ⟨r2, ⟨K2, hr2⟩, hH⟩ := hg a s' (hG a s' rfl)
  exact ⟨r2, ⟨max K K2, fun k hk => by show Pm.bo (f k) _ = _; rw [hr k (by omega)]; exact hr2 k (by omega)⟩, hH⟩
theorem Tot.one {α : Type} (r : PR α) {G : α → PS → Prop} (h : ∀ a s', r = .ok (a, s') → G a s') : Tot (fun _ => some r) G := ⟨r, ⟨0, fun _ _ => rfl⟩, h⟩
theorem Tot.ok {α : Type} {G : α → PS → Prop} {a : α} {s : PS} (h : G a s) : Tot (fun _ => some (.ok (a, s))) G := Tot.one _ (fun a' s' e => by injection e with e; injection e with e1 e2; subst e1; subst e2; exact h)
theorem Tot.err {α : Type} {G : α → PS → Prop} (x : Int × Int) : Tot (α := α) (fun _ => some (.error x)) G := Tot.one _ (fun _ _ e => nomatch e)
theorem Tot.step {α : Type} {f g : Nat → Option (PR α)} {G : α → PS → Prop} (h : ∀ k, f (k + 1) = g k) (hg : Tot g G) : Tot f G := let ⟨r, hr, hG⟩ := hg; ⟨r, Ev.step h hr, hG⟩
theorem Tot.congr {α : Type} {f g : Nat → Option (PR α)} {G : α → PS → Prop} (h : ∀ k, f k = g k) (hg : Tot g G) : Tot f G := let ⟨r, hr, hG⟩ := hg; ⟨r, Ev.congr h hr, hG⟩
theorem Tot.mono {α : Type} {f : Nat → Option (PR α)} {G H : α → PS → Prop} (hf : Tot f G) (h : ∀ a s, G a s → H a s) : Tot f H := let ⟨r, hr, hG⟩ := hf; ⟨r, hr, fun a s e => h a s (hG a s e)⟩
theorem Tot.bind {α γ : Type} {x : Nat → Option γ} {c : γ} (hx : Ev x c) {g : Nat → γ → Option (PR α)} {G : α → PS → Prop} (hg : Tot (fun k => g k c) G) : Tot (fun k => (x k).bind (g k)) G := let ⟨r, hr, hG⟩ := hg; ⟨r, Ev.bind hx hr, hG⟩
theorem Tot.ite {α : Type} {c : Prop} [Decidable c] {f g : Nat → Option (PR α)} {G : α → PS → Prop} (h1 : c → Tot f G) (h2 : ¬ c → Tot g G) : Tot (fun k => if c then f k else g k) G := by
 by_cases h : c
 ·exact Tot.congr (fun k => if_pos h) (h1 h)
 ·exact Tot.congr (fun k => if_neg h) (h2 h)
def Sf (s s' : PS) : Prop := s'.left <:+ s.left
theorem Sf.refl (s : PS) : Sf s s := List.suffix_refl _
theorem Sf.trans {a b c : PS} (h : Sf a b) (k : Sf b c) : Sf a c := List.IsSuffix.trans k h
theorem Sf.nxt (s : PS) : Sf s (Pm.nxt s) := List.tail_suffix _
theorem Sf.eq {s s' : PS} (h : s'.left = s.left) : Sf s s' := by unfold Sf; rw [h]; exact List.suffix_refl _
theorem Sf.len {s s' : PS} (h : Sf s s') : s'.left.length ≤ s.left.length := List.IsSuffix.length_le h
theorem nx_len {e : Int} {s : PS} (h : (Pm.now e s).f0 ≠ 5) : (Pm.nxt s).left.length + 1 = s.left.length ∧ Pm.now e s ∈ s.left := by
 obtain ⟨l, d, n⟩ := s
 cases l with
 | nil => exact absurd rfl h
 | cons t l => exact ⟨rfl, List.mem_cons_self⟩
def TokOK (t : PTok) : Prop := (∃ b, Ev (fun k => scan_Ident.f k t.f2) b) ∧ (∃ r, Ev (fun k => scan_Number.f k t.f2) r) ∧ (∃ r, Ev (fun k => scan_Unquote.f k t.f2) r ∧ ∃ b, Ev (fun k => scan_Ident.f k r.1) b)
def OKs (s : PS) : Prop := s.left.length ≤ 16384 ∧ ∀ t ∈ s.left, TokOK t
theorem OKs.sf {s s' : PS} (h : OKs s) (k : Sf s s') : OKs s' := ⟨Nat.le_trans k.len h.1, fun t ht => h.2 t (List.IsSuffix.subset k ht)⟩
theorem T_unl (e : Int) (b : Bool) (s : PS) : Tot (fun _ => some (Pm.unl e b s)) (fun _ s' => s' = s ∧ b = true) := by
 refine Tot.one _ (fun a s' h => ?_)
 unfold Pm.unl at h
 by_cases hb : b = true
 ·rw [if_pos hb] at h; injection h with h; injection h with _ h; exact ⟨h.symm, hb⟩
 ·rw [if_neg hb] at h
  by_cases h5 : (Pm.now e s).f0 = 5
  ·rw [if_pos h5] at h; exact nomatch h
  ·rw [if_neg h5] at h; exact nomatch h
theorem is_ne {e kd : Int} {t : ByteArray} {s : PS} (h : Pm.is e kd t s = true) (hk : kd ≠ 5) : (Pm.now e s).f0 ≠ 5 := by
 unfold Pm.is at h
 simp only [Bool.and_eq_true, beq_iff_eq] at h
 rw [h.1]; exact hk
theorem T_sign (e : Int) (t : ByteArray) (s : PS) : Tot (fun _ => some (Pm.sign e t s)) (fun _ s' => s' = Pm.nxt s ∧ (Pm.now e s).f0 ≠ 5) := by
 refine Tot.one _ (fun a s' h => ?_)
 unfold Pm.sign Pm.be at h
 obtain ⟨r, hr, hG⟩ := T_unl e (Pm.is e 4 t s) s
 obtain ⟨K, hr⟩ := hr
 have hr := Option.some.inj (hr K (Nat.le_refl _))
 rw [hr] at h
 rcases r with x | ⟨u, s2⟩
 ·exact nomatch h
 ·obtain ⟨rfl, hi⟩ := hG u s2 rfl
  injection h with h; injection h with _ h
  exact ⟨h.symm, is_ne hi (by decide)⟩
theorem T_counts (e : Int) (s : PS) : Tot (fun _ => some (Pm.counts e s)) (fun _ s' => s'.left = s.left ∧ s'.nest = s.nest) := by
 refine Tot.one _ (fun a s' h => ?_)
 unfold Pm.counts at h
 by_cases hd : s.decls = 4096
 ·rw [if_pos hd] at h; exact nomatch h
 ·rw [if_neg hd] at h; injection h with h; injection h with _ h; subst h; exact ⟨rfl, rfl⟩
theorem T_cond (e : Int) (c : Bool) (s : PS) : Tot (fun _ => some (if c = true then Pm.counts e s else .ok ((), s))) (fun _ s' => s'.left = s.left ∧ s'.nest = s.nest) := by
 by_cases h : c = true
 ·exact Tot.congr (fun _ => by rw [if_pos h]) (T_counts e s)
 ·exact Tot.congr (fun _ => by rw [if_neg h]) (Tot.ok ⟨rfl, rfl⟩)
theorem T_named (e : Int) (s : PS) (hs : OKs s) : Tot (fun k => Pm.named k e s) (fun a s' => s' = s ∧ a.size ≤ 255 ∧ (Pm.now e s).f0 ≠ 5) := by
 unfold Pm.named
 refine Tot.bo (T_unl e _ s) ?_
 rintro _ s ⟨rfl, h1⟩
 have h5 : (Pm.now e s).f0 ≠ 5 := by rw [beq_iff_eq.mp h1]; decide
 refine Tot.ite (fun _ => Tot.err _) (fun hc => ?_)
 obtain ⟨b, hb⟩ := (hs.2 _ (nx_len h5).2).1
 refine Tot.bind hb (Tot.bo (T_unl e _ s) ?_)
 rintro _ s ⟨rfl, _⟩
 exact Tot.ok ⟨rfl, by omega, h5⟩
theorem T_name (e : Int) (s : PS) (hs : OKs s) : Tot (fun k => Pm.name k e s) (fun a s' => s' = Pm.nxt s ∧ a.size ≤ 255 ∧ (Pm.now e s).f0 ≠ 5) := by
 unfold Pm.name
 refine Tot.bo (T_named e s hs) ?_
 rintro a s ⟨rfl, h1, h2⟩
 exact Tot.ok ⟨rfl, h1, h2⟩
theorem T_number (e : Int) (m : Bool) (s : PS) (hs : OKs s) : Tot (fun k => Pm.number k e m s) (fun _ s' => s' = s ∧ (Pm.now e s).f0 ≠ 5) := by
 unfold Pm.number
 refine Tot.bo (T_unl e _ s) ?_
 rintro _ s ⟨rfl, h1⟩
 have h5 : (Pm.now e s).f0 ≠ 5 := by rw [beq_iff_eq.mp h1]; decide
 obtain ⟨r, hr⟩ := (hs.2 _ (nx_len h5).2).2.1
 refine Tot.bind hr (Tot.ite (fun _ => Tot.ite (fun _ => Tot.err _) (fun _ => Tot.ok ⟨rfl, h5⟩)) (fun _ => Tot.err _))
theorem T_text (e : Int) (may : Nat → ByteArray → Option Int) (s : PS) (hs : OKs s) (hm : ∀ t ∈ s.left, ∀ r, Ev (fun k => scan_Unquote.f k t.f2) r → ∃ m, Ev (fun k => may k r.1) m) : Tot (fun k => Pm.text k e (may k) s) (fun _ s' => s' = s ∧ (Pm.now e s).f0 ≠ 5) := by
 unfold Pm.text
 refine Tot.bo (T_unl e _ s) ?_
 rintro _ s ⟨rfl, h1⟩
 have h5 : (Pm.now e s).f0 ≠ 5 := by rw [beq_iff_eq.mp h1]; decide
 obtain ⟨r, hr, _⟩ := (hs.2 _ (nx_len h5).2).2.2
 obtain ⟨m, hm⟩ := hm _ (nx_len h5).2 r hr
 refine Tot.bind hr (Tot.ite (fun _ => Tot.bind hm (Tot.ite (fun _ => Tot.ok ⟨rfl, h5⟩) (fun _ => Tot.err _))) (fun _ => Tot.err _))
set_option maxRecDepth 100000 in
theorem dot_num (a b n M : Nat) (h1 : b ≤ 255) (hb : a + 256 * (n + 1 + 1) ≤ M) : a + b + 1 + 256 * (n + 1) ≤ M := by omega
theorem dot_size {n : Nat} (t a : ByteArray) (h1 : a.size ≤ 255) (hb : t.size + 256 * (n + 1 + 1) ≤ 140737488355328) : (t ++ a ++ Pm.dot).size + 256 * (n + 1) ≤ 140737488355328 := by
 have hsz : (t ++ a ++ Pm.dot).size = t.size + a.size + 1 := by rw [ByteArray.size_append, ByteArray.size_append]; exact congrArg (t.size + a.size + ·) (show Pm.dot.size = 1 from rfl)
 rw [hsz]
 exact dot_num _ _ _ _ h1 hb
set_option maxRecDepth 100000 in
theorem T_namesL (e at_ : Int) : ∀ (n : Nat) (c : Bool) (t : ByteArray) (s : PS), s.left.length ≤ n → OKs s → t.size + 256 * (n + 1) ≤ 140737488355328 → Tot (fun k => Pm.namesL e at_ k c t s) (fun _ s' => Sf s s' ∧ s'.left.length < s.left.length) := by
 intro n
 induction n with
 | zero =>
  intro c t s hn hs hb
  refine Tot.step (fun k => rfl) ?_
  refine Tot.bo (T_named e s hs) ?_
  rintro a s ⟨rfl, h1, h5⟩
  have := (nx_len h5).1
  omega
 | succ n ih =>
  intro c t s hn hs hb
  refine Tot.step (fun k => rfl) ?_
  refine Tot.bo (T_named e s hs) ?_
  rintro a s ⟨rfl, h1, h5⟩
  refine Tot.bo (T_cond e c s) ?_
  rintro _ s2 ⟨h2, _⟩
  have hl := (nx_len h5).1
  have hx : (Pm.nxt s2).left = (Pm.nxt s).left := by unfold Pm.nxt; rw [h2]
  refine Tot.ite (fun _ => ?_) (fun h => absurd (show t.size + a.size ≤ 140737488355328 by omega) h)
  refine Tot.ite (fun hd => ?_) (fun _ => Tot.ite (fun _ => Tot.err _) (fun _ => Tot.ok ⟨(Sf.eq h2).trans (Sf.nxt s2), by rw [hx]; omega⟩))
  have h6 := is_ne hd (by decide)
  have hl2 := (nx_len h6).1
  rw [hx] at hl2
  have hsf : Sf s (Pm.nxt (Pm.nxt s2)) := ((Sf.eq h2).trans (Sf.nxt s2)).trans (Sf.nxt _)
  refine Tot.ite (fun _ => ?_) (fun h => absurd (show t.size + a.size + 1 ≤ 140737488355328 by omega) h)
  refine (ih false (t ++ a ++ Pm.dot) (Pm.nxt (Pm.nxt s2)) (by omega) (hs.sf hsf) (dot_size t a h1 hb)).mono (fun _ s' h => ⟨hsf.trans h.1, by have := h.2; omega⟩)
def On (s s' : PS) : Prop := Sf s s' ∧ s'.left.length < s.left.length
theorem On.tr {a b c : PS} (h : On a b) (k : Sf b c) : On a c := ⟨h.1.trans k, Nat.lt_of_le_of_lt k.len h.2⟩
theorem On.rt {a b c : PS} (h : Sf a b) (k : On b c) : On a c := ⟨h.trans k.1, Nat.lt_of_lt_of_le k.2 h.len⟩
theorem On.nx {e : Int} {s : PS} (h : (Pm.now e s).f0 ≠ 5) : On s (Pm.nxt s) := ⟨Sf.nxt s, by have := (nx_len h).1; omega⟩
theorem T_names (e : Int) (d c : Bool) (s : PS) (hs : OKs s) : Tot (fun k => Pm.names k e d c s) (fun _ s' => On s s') := by
 have hb : ∀ m : Nat, m ≤ 1 → m + 256 * (16384 + 1) ≤ 140737488355328 := fun m hm => Nat.le_trans (Nat.add_le_add_right hm _) (by decide)
 unfold Pm.names
 refine Tot.ite (fun h => ?_) (fun _ => T_namesL e _ 16384 c _ s hs.1 hs (hb 0 (by decide)))
 refine Tot.bo (T_cond e c s) ?_
 rintro _ s2 ⟨h2, _⟩
 have h5 := is_ne h.2 (by decide)
 have hsf : Sf s (Pm.nxt s2) := (Sf.eq h2).trans (Sf.nxt s2)
 exact (T_namesL e _ 16384 false Pm.dot (Pm.nxt s2) (Nat.le_trans hsf.len hs.1) (hs.sf hsf) (hb 1 (Nat.le_refl 1))).mono (fun _ s' h => On.rt hsf h)
theorem T_closes (e : Int) (s : PS) : Tot (fun _ => some (Pm.closes e s)) (fun _ s' => On s s') := by
 unfold Pm.closes
 by_cases h : Pm.is e 4 ⟨#[91]⟩ s = true
 ·exact Tot.congr (fun _ => by rw [if_pos h]; rfl) (Tot.err _)
 ·exact Tot.congr (fun _ => by rw [if_neg h]) ((T_sign e Pm.wSemi s).mono (fun _ s' h => by rw [h.1]; exact On.nx h.2))
theorem T_rest (e : Int) (f : PField) (s : PS) (hs : OKs s) : Tot (fun k => Pm.rest k e f s) (fun _ s' => On s s') := by
 unfold Pm.rest
 refine Tot.bo (T_name e s hs) ?_
 rintro n _ ⟨rfl, _, h5⟩
 have o1 := On.nx h5
 refine Tot.bo (T_sign e _ _) ?_
 rintro _ _ ⟨rfl, h6⟩
 have o2 := o1.tr (Sf.nxt _)
 refine Tot.bo (T_number e false _ (hs.sf o2.1)) ?_
 rintro v s2 ⟨rfl, h7⟩
 refine Tot.bo (T_closes e _) ?_
 rintro _ s3 h8
 exact Tot.ok ((o2.tr (Sf.nxt _)).tr h8.1)
theorem T_field (e : Int) (f : PField) (c : Bool) (s : PS) (hs : OKs s) : Tot (fun k => Pm.field k e f c s) (fun _ s' => On s s') := by
 unfold Pm.field
 refine Tot.bo (T_names e true c s hs) ?_
 rintro t s2 h
 exact (T_rest e _ s2 (hs.sf h.1)).mono (fun _ s' h2 => h.tr h2.1)
theorem T_labelled (e : Int) (s : PS) (hs : OKs s) : Tot (fun k => Pm.labelled k e s) (fun _ s' => On s s') := by
 unfold Pm.labelled
 refine Tot.bo (T_counts e s) ?_
 rintro _ s2 ⟨h2, _⟩
 have hsf : Sf s (Pm.nxt s2) := (Sf.eq h2).trans (Sf.nxt s2)
 exact Tot.ite (fun _ => Tot.err _) (fun _ => (T_field e _ false _ (hs.sf hsf)).mono (fun _ s' h => On.rt hsf h))
theorem T_table (e : Int) (s : PS) (hs : OKs s) : Tot (fun k => Pm.table k e s) (fun _ s' => On s s') := by
 unfold Pm.table
 refine Tot.bo (T_counts e s) ?_
 rintro _ s2 ⟨h2, _⟩
 have a1 : Sf s (Pm.nxt s2) := (Sf.eq h2).trans (Sf.nxt s2)
 refine Tot.bo (T_sign e _ _) ?_
 rintro _ _ ⟨rfl, h6⟩
 have a2 := a1.trans (Sf.nxt _)
 refine Tot.bo (T_names e true false _ (hs.sf a2)) ?_
 rintro key s3 h3
 have a3 := On.rt a2 h3
 refine Tot.bo (T_sign e _ _) ?_
 rintro _ _ ⟨rfl, h7⟩
 have a4 := a3.tr (Sf.nxt _)
 refine Tot.bo (T_names e true false _ (hs.sf a4.1)) ?_
 rintro t s4 h8
 have a5 := a4.tr h8.1
 refine Tot.bo (T_sign e _ _) ?_
 rintro _ _ ⟨rfl, h9⟩
 have a6 := a5.tr (Sf.nxt _)
 exact (T_rest e _ _ (hs.sf a6.1)).mono (fun _ s' h => a6.tr h.1)
theorem T_barred (t : ByteArray) : ∃ b, parse_barred.f t = some b := by
 unfold parse_barred.f
 repeat' split
 all_goals exact ⟨_, rfl⟩
theorem T_oneofL (e n : Int) : ∀ (N : Nat) (l : List PField) (s : PS), s.left.length = N → OKs s → l.length + s.left.length ≤ 100000 → Tot (fun k => Pm.oneofL e n k l s) (fun l' s' => Sf s s' ∧ l'.length + s'.left.length ≤ l.length + s.left.length ∧ Pm.is e 4 Pm.wRbrace s' = true) := by
 intro N
 induction N using Nat.strongRecOn with
 | ind N ih =>
  intro l s hN hs hb
  refine Tot.step (fun k => rfl) ?_
  refine Tot.ite (fun h => Tot.ok ⟨Sf.refl s, Nat.le_refl _, h⟩) (fun _ => Tot.ite (fun h => ?_) (fun _ => ?_))
  ·have h5 := On.nx (is_ne h (by decide))
   exact (ih _ (by have := h5.2; omega) l _ rfl (hs.sf h5.1) (by have := h5.2; omega)).mono (fun _ s' q => ⟨h5.1.trans q.1, by have := q.2.1; have := h5.2; omega, q.2.2⟩)
  ·have hbar : ∃ b, (if (Pm.now e s).f0 = 1 then parse_barred.f (Pm.now e s).f2 else some false) = some b := by
    split
    ·exact T_barred _
    ·exact ⟨_, rfl⟩
   obtain ⟨bb, hbb⟩ := hbar
   refine Tot.bind (c := bb) ⟨0, fun _ _ => hbb⟩ ?_
   refine Tot.ite (fun _ => Tot.err _) (fun _ => ?_)
   refine Tot.bo (T_unl e _ s) ?_
   rintro _ s ⟨rfl, _⟩
   refine Tot.bo (T_field e _ true s hs) ?_
   rintro f s2 h2
   refine Tot.ite (fun _ => ?_) (fun h => absurd (show l.length < 1099511627776 by omega) h)
   refine (ih _ (by have := h2.2; omega) (l ++ [f]) s2 rfl (hs.sf h2.1) (by have := h2.2; simp; omega)).mono (fun _ s' q => ⟨h2.1.trans q.1, by have h3 := q.2.1; have h4 := h2.2; rw [List.length_append, List.length_singleton] at h3; omega, q.2.2⟩)
theorem T_oneof (e : Int) (m : PMsg) (s : PS) (hs : OKs s) (hb : m.f1.length + m.f2.length + s.left.length ≤ 100000) : Tot (fun k => Pm.oneof k e m s) (fun m' s' => On s s' ∧ m'.f1.length + m'.f2.length + s'.left.length ≤ m.f1.length + m.f2.length + s.left.length ∧ m'.f0 = m.f0 ∧ m'.f3 = m.f3 ∧ m'.f4 = m.f4 ∧ m'.f5 = m.f5 ∧ m'.f6 = m.f6) := by
 unfold Pm.oneof
 refine Tot.bo (T_counts e s) ?_
 rintro _ s2 ⟨h2, _⟩
 have a1 : Sf s (Pm.nxt s2) := (Sf.eq h2).trans (Sf.nxt s2)
 refine Tot.bo (T_name e _ (hs.sf a1)) ?_
 rintro n _ ⟨rfl, _, h5⟩
 have a2 := On.rt a1 (On.nx h5)
 refine Tot.ite (fun _ => ?_) (fun h => absurd (show m.f2.length < 1099511627776 by omega) h)
 refine Tot.bo (T_sign e _ _) ?_
 rintro _ _ ⟨rfl, h6⟩
 have a3 := a2.tr (Sf.nxt _)
 have l3 : (Pm.nxt (Pm.nxt (Pm.nxt s2))).left.length + 1 < s.left.length + 0 ∨ (Pm.nxt (Pm.nxt (Pm.nxt s2))).left.length + 1 ≤ s.left.length := Or.inr (by have := a3.2; omega)
 refine Tot.bo (T_oneofL e _ _ m.f1 _ rfl (hs.sf a3.1) (by have := a3.2; omega)) ?_
 rintro l s4 ⟨h7, h8, h9⟩
 refine Tot.bo (T_unl e _ s4) ?_
 rintro _ s4 ⟨rfl, _⟩
 have h10 := (nx_len (is_ne h9 (by decide))).1
 refine Tot.ok ⟨(a3.tr h7).tr (Sf.nxt _), ?_, rfl, rfl, rfl, rfl, rfl⟩
 have := a3.2
 simp only [List.length_append, List.length_singleton]
 omega
theorem sf_minus (e : Int) (b : Bool) (s : PS) : Sf s (Pm.minus e b s).2 := by
 unfold Pm.minus
 split
 ·exact Sf.nxt s
 ·exact Sf.refl s
theorem T_bound (e : Int) (neg en : Bool) (s : PS) (hs : OKs s) : Tot (fun k => Pm.bound k e neg en s) (fun _ s' => s' = s ∧ (Pm.now e s).f0 ≠ 5) := by
 unfold Pm.bound
 refine Tot.bo (T_number e neg s hs) ?_
 rintro v s ⟨rfl, h⟩
 exact Tot.ite (fun _ => Tot.err _) (fun _ => Tot.ok ⟨rfl, h⟩)
theorem T_cond2 (e : Int) (c : Prop) [Decidable c] (s : PS) : Tot (fun _ => some (if c then Pm.counts e s else .ok ((), s))) (fun _ s' => s'.left = s.left ∧ s'.nest = s.nest) := by
 by_cases h : c
 ·exact Tot.congr (fun _ => by rw [if_pos h]) (T_counts e s)
 ·exact Tot.congr (fun _ => by rw [if_neg h]) (Tot.ok ⟨rfl, rfl⟩)
theorem T_cond3 (e : Int) (c : Prop) [Decidable c] (s : PS) : Tot (fun _ => some (if c then .ok ((), s) else Pm.counts e s)) (fun _ s' => s'.left = s.left ∧ s'.nest = s.nest) := by
 by_cases h : c
 ·exact Tot.congr (fun _ => by rw [if_pos h]) (Tot.ok ⟨rfl, rfl⟩)
 ·exact Tot.congr (fun _ => by rw [if_neg h]) (T_counts e s)
theorem T_row (e : Int) (en : Bool) (s : PS) (hs : OKs s) : Tot (fun k => Pm.row k e en s) (fun _ s' => On s s') := by
 unfold Pm.row
 refine Tot.bo (T_cond2 e _ s) ?_
 rintro _ s2 ⟨h2, _⟩
 have a1 : Sf s (Pm.minus e en s2).2 := (Sf.eq h2).trans (sf_minus e en s2)
 refine Tot.bo (T_bound e _ en _ (hs.sf a1)) ?_
 rintro n s3 ⟨rfl, h5⟩
 refine Tot.bo (T_cond3 e _ _) ?_
 rintro _ s4 ⟨h4, _⟩
 have hx : (Pm.nxt s4).left = (Pm.nxt (Pm.minus e en s2).2).left := by unfold Pm.nxt; rw [h4]
 have a2 : On s (Pm.nxt s4) := ⟨((a1.trans (Sf.eq h4)).trans (Sf.nxt s4)), by rw [hx]; have := (nx_len h5).1; have := a1.len; omega⟩
 refine Tot.ite (fun _ => Tot.ite (fun _ => Tot.ok ((a2.tr (Sf.nxt _)).tr (Sf.nxt _))) (fun _ => ?_)) (fun _ => Tot.ok a2)
 have a3 := (a2.tr (Sf.nxt _)).tr (sf_minus e en _)
 refine Tot.bo (T_bound e _ en _ (hs.sf a3.1)) ?_
 rintro q s5 ⟨rfl, _⟩
 exact Tot.ite (fun _ => Tot.err _) (fun _ => Tot.ok (a3.tr (Sf.nxt _)))
theorem mayWord_ev {t : PTok} (h : TokOK t) : ∀ r, Ev (fun k => scan_Unquote.f k t.f2) r → ∃ m, Ev (fun k => Pm.mayWord k r.1) m := by
 obtain ⟨_, _, r0, h0, b, hb⟩ := h
 intro r hr
 have e : r = r0 := by
  obtain ⟨K, hr⟩ := hr
  obtain ⟨K2, h0⟩ := h0
  exact Option.some.inj ((hr (max K K2) (by omega)).symm.trans (h0 (max K K2) (by omega)))
 subst e
 by_cases c : (r.1.size : Int) > 255
 ·exact ⟨2, ⟨0, fun k _ => by show Pm.mayWord k r.1 = _; unfold Pm.mayWord; rw [if_pos c]⟩⟩
 ·obtain ⟨K, hb⟩ := hb
  exact ⟨if b = true then 0 else 50, ⟨K, fun k hk => by
   have h := hb k hk
   dsimp only at h
   show Pm.mayWord k r.1 = _
   unfold Pm.mayWord
   rw [if_neg c, h]
   rfl⟩⟩
theorem T_reservedL (e : Int) (tx en : Bool) : ∀ (N : Nat) (rows : List PRange) (gone : List ByteArray) (s : PS), s.left.length = N → OKs s → rows.length + gone.length + s.left.length ≤ 100000 →
  Tot (fun k => Pm.reservedL e tx en k rows gone s) (fun r s' => On s s' ∧ r.1.length + r.2.length + s'.left.length ≤ rows.length + gone.length + s.left.length) := by
 intro N
 induction N using Nat.strongRecOn with
 | ind N ih =>
  intro rows gone s hN hs hb
  refine Tot.step (fun k => rfl) ?_
  refine Tot.ite (fun _ => ?_) (fun _ => ?_)
  ·refine Tot.bo (T_text e Pm.mayWord s hs (fun t ht r hr => mayWord_ev (hs.2 t ht) r hr)) ?_
   rintro t s ⟨rfl, h5⟩
   refine Tot.bo (T_counts e s) ?_
   rintro _ s2 ⟨h2, _⟩
   have hx : (Pm.nxt s2).left = (Pm.nxt s).left := by unfold Pm.nxt; rw [h2]
   have hl := (nx_len h5).1
   have a1 : On s (Pm.nxt s2) := ⟨(Sf.eq h2).trans (Sf.nxt s2), by rw [hx]; omega⟩
   refine Tot.ite (fun _ => ?_) (fun h => absurd (show gone.length < 1099511627776 by omega) h)
   have a2 := a1.tr (Sf.nxt _)
   refine Tot.ite (fun _ => ?_) (fun _ => Tot.ok ⟨a1, by have := a1.2; show rows.length + (gone ++ [t]).length + _ ≤ _; rw [List.length_append, List.length_singleton]; omega⟩)
   exact (ih _ (by have := a2.2; omega) rows (gone ++ [t]) _ rfl (hs.sf a2.1) (by have := a2.2; rw [List.length_append, List.length_singleton]; omega)).mono (fun _ s' q => ⟨a2.tr q.1.1, by have h3 := q.2; have h4 := a2.2; rw [List.length_append, List.length_singleton] at h3; omega⟩)
  ·refine Tot.bo (T_row e en s hs) ?_
   rintro r s2 a1
   refine Tot.ite (fun _ => ?_) (fun h => absurd (show rows.length < 1099511627776 by omega) h)
   have a2 := a1.tr (Sf.nxt _)
   refine Tot.ite (fun _ => ?_) (fun _ => Tot.ok ⟨a1, by have := a1.2; show (rows ++ [r]).length + gone.length + _ ≤ _; rw [List.length_append, List.length_singleton]; omega⟩)
   exact (ih _ (by have := a2.2; omega) (rows ++ [r]) gone _ rfl (hs.sf a2.1) (by have := a2.2; rw [List.length_append, List.length_singleton]; omega)).mono (fun _ s' q => ⟨a2.tr q.1.1, by have h3 := q.2; have h4 := a2.2; rw [List.length_append, List.length_singleton] at h3; omega⟩)
theorem T_reserved (e : Int) (en : Bool) (rows : List PRange) (gone : List ByteArray) (s : PS) (hs : OKs s) (hb : rows.length + gone.length + s.left.length ≤ 100000) :
  Tot (fun k => Pm.reserved k e en rows gone s) (fun r s' => On s s' ∧ r.1.length + r.2.length + s'.left.length ≤ rows.length + gone.length + s.left.length) := by
 unfold Pm.reserved
 have a1 := Sf.nxt s
 have l1 := a1.len
 refine Tot.bo (T_reservedL e _ en _ rows gone _ rfl (hs.sf a1) (by omega)) ?_
 rintro r s2 ⟨h2, h3⟩
 refine Tot.bo (T_sign e _ s2) ?_
 rintro _ _ ⟨rfl, h4⟩
 have h5 := (nx_len h4).1
 exact Tot.ok ⟨(On.rt a1 h2).tr (Sf.nxt _), by omega⟩
theorem T_enumL (e : Int) : ∀ (N : Nat) (x : PEnum) (s : PS), s.left.length = N → OKs s → x.f1.length + x.f2.length + x.f3.length + s.left.length ≤ 100000 →
  Tot (fun k => Pm.enumL e k x s) (fun y s' => Sf s s' ∧ y.f1.length + y.f2.length + y.f3.length + s'.left.length ≤ x.f1.length + x.f2.length + x.f3.length + s.left.length ∧ Pm.is e 4 Pm.wRbrace s' = true) := by
 intro N
 induction N using Nat.strongRecOn with
 | ind N ih =>
  intro x s hN hs hb
  refine Tot.step (fun k => rfl) ?_
  refine Tot.ite (fun h => Tot.ok ⟨Sf.refl s, Nat.le_refl _, h⟩) (fun _ => Tot.ite (fun h => ?_) (fun _ => Tot.ite (fun _ => ?_) (fun _ => Tot.ite (fun _ => Tot.err _) (fun _ => ?_))))
  ·have h5 := On.nx (is_ne h (by decide))
   have h6 := h5.2
   exact (ih _ (by omega) x _ rfl (hs.sf h5.1) (by omega)).mono (fun _ s' q => ⟨h5.1.trans q.1, by have := q.2.1; omega, q.2.2⟩)
  ·refine Tot.bo (T_reserved e true x.f2 x.f3 s hs (by omega)) ?_
   rintro r s2 ⟨h2, h3⟩
   have h4 := h2.2
   exact (ih _ (by omega) { x with f2 := r.1, f3 := r.2 } s2 rfl (hs.sf h2.1) (by show x.f1.length + r.1.length + r.2.length + _ ≤ _; omega)).mono (fun y s' q => ⟨h2.1.trans q.1, by have h7 := q.2.1; have h8 : y.f1.length + y.f2.length + y.f3.length + s'.left.length ≤ x.f1.length + r.1.length + r.2.length + s2.left.length := h7; omega, q.2.2⟩)
  ·refine Tot.bo (T_named e s hs) ?_
   rintro n s ⟨rfl, _, h5⟩
   refine Tot.bo (T_counts e s) ?_
   rintro _ s2 ⟨h2, _⟩
   have hx : (Pm.nxt s2).left = (Pm.nxt s).left := by unfold Pm.nxt; rw [h2]
   have hl := (nx_len h5).1
   have a1 : On s (Pm.nxt s2) := ⟨(Sf.eq h2).trans (Sf.nxt s2), by rw [hx]; omega⟩
   refine Tot.bo (T_sign e _ _) ?_
   rintro _ _ ⟨rfl, _⟩
   have a2 := (a1.tr (Sf.nxt _)).tr (sf_minus e true _)
   refine Tot.bo (T_number e _ _ (hs.sf a2.1)) ?_
   rintro v s3 ⟨rfl, _⟩
   have a3 := a2.tr (Sf.nxt _)
   refine Tot.bo (T_closes e _) ?_
   rintro _ s4 h8
   have a4 := a3.tr h8.1
   have l4 := a4.2
   refine Tot.ite (fun _ => ?_) (fun h => absurd (show x.f1.length < 1099511627776 by omega) h)
   exact (ih _ (by omega) { x with f1 := x.f1 ++ [⟨n, v⟩] } s4 rfl (hs.sf a4.1) (by show (x.f1 ++ [(⟨n, v⟩ : PValue)]).length + x.f2.length + x.f3.length + s4.left.length ≤ _; rw [List.length_append, List.length_singleton]; omega)).mono (fun y s' q => ⟨a4.1.trans q.1, by
    have h7 : y.f1.length + y.f2.length + y.f3.length + s'.left.length ≤ (x.f1 ++ [(⟨n, v⟩ : PValue)]).length + x.f2.length + x.f3.length + s4.left.length := q.2.1
    rw [List.length_append, List.length_singleton] at h7
    omega, q.2.2⟩)
theorem T_enum (e : Int) (s : PS) (hs : OKs s) : Tot (fun k => Pm.enum k e s) (fun x s' => On s s' ∧ x.f1.length + x.f2.length + x.f3.length ≤ 100000) := by
 unfold Pm.enum
 refine Tot.bo (T_counts e s) ?_
 rintro _ s2 ⟨h2, _⟩
 have a1 : Sf s (Pm.nxt s2) := (Sf.eq h2).trans (Sf.nxt s2)
 refine Tot.bo (T_name e _ (hs.sf a1)) ?_
 rintro n _ ⟨rfl, _, h5⟩
 have a2 := On.rt a1 (On.nx h5)
 refine Tot.bo (T_sign e _ _) ?_
 rintro _ _ ⟨rfl, h6⟩
 have a3 := a2.tr (Sf.nxt _)
 have hl := (hs.sf a3.1).1
 refine Tot.bo (T_enumL e _ ⟨n, [], [], []⟩ _ rfl (hs.sf a3.1) (by show 0 + 0 + 0 + _ ≤ _; omega)) ?_
 rintro x s4 ⟨h7, h8, h9⟩
 have h10 : x.f1.length + x.f2.length + x.f3.length + s4.left.length ≤ 0 + 0 + 0 + (Pm.nxt (Pm.nxt (Pm.nxt s2))).left.length := h8
 refine Tot.bo (T_unl e _ s4) ?_
 rintro _ s4 ⟨rfl, _⟩
 exact Tot.ok ⟨(a3.tr h7).tr (Sf.nxt _), by omega⟩
theorem Tot.nest {α : Type} {f : Nat → Option (PR α)} {G : α → PS → Prop} {n : Int} (hf : Tot f G) (h : ∀ k, kN (f k) n) : Tot f (fun a s => G a s ∧ s.nest = n) := by
 obtain ⟨r, ⟨K, hr⟩, hG⟩ := hf
 exact ⟨r, ⟨K, hr⟩, fun a s e => ⟨hG a s e, (h K).out a s (by rw [hr K (Nat.le_refl _), e])⟩⟩
def sumM (m : PMsg) : Nat := m.f1.length + m.f2.length + m.f3.length + m.f4.length + m.f5.length + m.f6.length
def MI (d : Nat) (m : PMsg) (s : PS) : Prop := sumM m + s.left.length ≤ 100000 ∧ (∀ y ∈ m.f3, smallM d y) ∧ (∀ y ∈ m.f4, smallE y)
theorem MI.lens {d : Nat} {m : PMsg} {s : PS} (h : MI d m s) : lensM m := by
 have := h.1
 unfold sumM at this
 exact ⟨by omega, by omega, by omega, by omega, by omega, by omega, h.2.2⟩
theorem T_msgAll (e : Int) : ∀ N, ∀ (d : Nat) (m : PMsg) (s : PS), s.left.length = N → OKs s → 1 ≤ d → (d : Int) + s.nest = 33 → MI d m s → Tot (fun k => Pm.messageL e k m s) (fun x s' => On s s' ∧ lensM x ∧ ∀ y ∈ x.f3, smallM d y) := by
 intro N
 induction N using Nat.strongRecOn with
 | ind N ih =>
  have hmsg : ∀ (d : Nat) (s : PS), s.left.length = N → OKs s → 1 ≤ d → (d : Int) + s.nest = 33 → Tot (fun k => Pm.message e k s) (fun x s' => On s s' ∧ smallM d x) := by
   intro d s hN hs hd hn
   refine Tot.step (fun k => rfl) ?_
   refine Tot.ite (fun _ => Tot.err _) (fun h32 => ?_)
   refine Tot.bo (T_counts e s) ?_
   rintro _ s2 ⟨h2, h2n⟩
   have a1 : Sf s (Pm.nxt { s2 with nest := s2.nest + 1 }) := (Sf.eq (s' := { s2 with nest := s2.nest + 1 }) h2).trans (Sf.nxt _)
   refine Tot.bo (T_name e _ (hs.sf a1)) ?_
   rintro n _ ⟨rfl, _, h5⟩
   have a2 := On.rt a1 (On.nx h5)
   refine Tot.bo (T_sign e _ _) ?_
   rintro _ _ ⟨rfl, h6⟩
   have a3 := a2.tr (Sf.nxt _)
   obtain ⟨d', rfl⟩ : ∃ d', d = d' + 1 := ⟨d - 1, by omega⟩
   have hl := a3.2
   have hl2 := (hs.sf a3.1).1
   refine (ih _ (by omega) d' ⟨n, [], [], [], [], [], []⟩ _ rfl (hs.sf a3.1) (by omega) (by show (d' : Int) + (s2.nest + 1) = 33; rw [h2n]; omega) ⟨by show 0 + _ ≤ _; omega, (fun y hy => nomatch hy), (fun y hy => nomatch hy)⟩).mono (fun x s' q => ⟨a3.tr q.1.1, ⟨q.2.1, q.2.2⟩⟩)
  have hmem : ∀ (d : Nat) (m : PMsg) (s : PS), s.left.length = N → OKs s → 1 ≤ d → (d : Int) + s.nest = 33 → MI d m s → Tot (fun k => Pm.member e k m s) (fun m' s' => On s s' ∧ MI d m' s') := by
   intro d m s hN hs hd hn hM
   have hM1 := hM.1
   unfold sumM at hM1
   have fieldcase : ∀ {f : Nat → Option (PR PField)}, Tot f (fun _ s' => On s s') → Tot (fun k => Pm.bo (f k) fun f s => if m.f1.length < 1099511627776 then some (.ok ({ m with f1 := m.f1 ++ [f] }, s)) else none) (fun m' s' => On s s' ∧ MI d m' s') := by
    intro f hf
    refine Tot.bo hf ?_
    rintro fl s2 h2
    have hl := h2.2
    refine Tot.ite (fun _ => Tot.ok ⟨h2, ?_, hM.2⟩) (fun h => absurd (show m.f1.length < 1099511627776 by omega) h)
    show (m.f1 ++ [fl]).length + m.f2.length + m.f3.length + m.f4.length + m.f5.length + m.f6.length + _ ≤ _
    rw [List.length_append, List.length_singleton]
    omega
   refine Tot.step (fun k => rfl) ?_
   refine Tot.ite (fun h => ?_) (fun _ => Tot.ite (fun _ => fieldcase (T_table e s hs)) (fun _ => Tot.ite (fun _ => ?_) (fun _ => Tot.ite (fun _ => ?_) (fun _ => Tot.ite (fun _ => ?_) (fun _ => Tot.ite (fun _ => ?_) (fun _ => Tot.ite (fun _ => fieldcase (T_labelled e s hs)) (fun _ => Tot.ite (fun _ => Tot.err _) (fun _ => ?_))))))))
   ·have h5 := On.nx (is_ne h (by decide))
    have h6 := h5.2
    exact Tot.ok ⟨h5, by unfold sumM; omega, hM.2⟩
   ·refine Tot.bo (hmsg d s hN hs hd hn) ?_
    rintro x s2 ⟨h2, hx⟩
    have hl := h2.2
    refine Tot.ite (fun _ => Tot.ok ⟨h2, ?_, ?_, hM.2.2⟩) (fun h => absurd (show m.f3.length < 549755813888 by omega) h)
    ·show m.f1.length + m.f2.length + (m.f3 ++ [x]).length + m.f4.length + m.f5.length + m.f6.length + _ ≤ _
     rw [List.length_append, List.length_singleton]
     omega
    ·intro y hy
     rcases List.mem_append.mp hy with h | h
     ·exact hM.2.1 y h
     ·rw [List.mem_singleton.mp h]; exact hx
   ·refine Tot.bo (T_enum e s hs) ?_
    rintro x s2 ⟨h2, hx⟩
    have hl := h2.2
    refine Tot.ite (fun _ => Tot.ok ⟨h2, ?_, hM.2.1, ?_⟩) (fun h => absurd (show m.f4.length < 1099511627776 by omega) h)
    ·show m.f1.length + m.f2.length + m.f3.length + (m.f4 ++ [x]).length + m.f5.length + m.f6.length + _ ≤ _
     rw [List.length_append, List.length_singleton]
     omega
    ·intro y hy
     rcases List.mem_append.mp hy with h | h
     ·exact hM.2.2 y h
     ·rw [List.mem_singleton.mp h]; exact ⟨by omega, by omega, by omega⟩
   ·refine (T_oneof e m s hs (by omega)).mono (fun m' s' q => ⟨q.1, ?_, ?_, ?_⟩)
    ·have := q.2.1
     unfold sumM
     rw [q.2.2.2.1, q.2.2.2.2.1, q.2.2.2.2.2.1, q.2.2.2.2.2.2]
     omega
    ·rw [q.2.2.2.1]; exact hM.2.1
    ·rw [q.2.2.2.2.1]; exact hM.2.2
   ·refine Tot.bo (T_reserved e false m.f5 m.f6 s hs (by omega)) ?_
    rintro r s2 ⟨h2, h3⟩
    refine Tot.ok ⟨h2, ?_, hM.2⟩
    show m.f1.length + m.f2.length + m.f3.length + m.f4.length + r.1.length + r.2.length + _ ≤ _
    omega
   ·refine Tot.bo (T_unl e _ s) ?_
    rintro _ s' ⟨h', _⟩
    rw [h']
    exact fieldcase (T_field e _ true s hs)
  intro d m s hN hs hd hn hM
  refine Tot.step (fun k => rfl) ?_
  refine Tot.ite (fun h => ?_) (fun _ => ?_)
  ·have h5 := On.nx (is_ne h (by decide))
   exact Tot.ok ⟨h5, hM.lens, hM.2.1⟩
  ·refine Tot.bo (Tot.nest (hmem d m s hN hs hd hn hM) (fun k => kN_member e k m s)) ?_
   rintro m2 s2 ⟨⟨h2, hM2⟩, hn2⟩
   have hl := h2.2
   exact (ih _ (by omega) d m2 s2 rfl (hs.sf h2.1) hd (by rw [hn2]; exact hn) hM2).mono (fun x s' q => ⟨h2.tr q.1.1, q.2⟩)
theorem T_message (e : Int) (d : Nat) (s : PS) (hs : OKs s) (hd : 1 ≤ d) (hn : (d : Int) + s.nest = 33) : Tot (fun k => Pm.message e k s) (fun x s' => On s s' ∧ smallM d x) := by
 refine Tot.step (fun k => rfl) ?_
 refine Tot.ite (fun _ => Tot.err _) (fun h32 => ?_)
 refine Tot.bo (T_counts e s) ?_
 rintro _ s2 ⟨h2, h2n⟩
 have a1 : Sf s (Pm.nxt { s2 with nest := s2.nest + 1 }) := (Sf.eq (s' := { s2 with nest := s2.nest + 1 }) h2).trans (Sf.nxt _)
 refine Tot.bo (T_name e _ (hs.sf a1)) ?_
 rintro n _ ⟨rfl, _, h5⟩
 have a2 := On.rt a1 (On.nx h5)
 refine Tot.bo (T_sign e _ _) ?_
 rintro _ _ ⟨rfl, h6⟩
 have a3 := a2.tr (Sf.nxt _)
 obtain ⟨d', rfl⟩ : ∃ d', d = d' + 1 := ⟨d - 1, by omega⟩
 have hl := a3.2
 have hl2 := (hs.sf a3.1).1
 exact (T_msgAll e _ d' ⟨n, [], [], [], [], [], []⟩ _ rfl (hs.sf a3.1) (by omega) (by show (d' : Int) + (s2.nest + 1) = 33; rw [h2n]; omega) ⟨by show 0 + _ ≤ _; omega, (fun y hy => nomatch hy), (fun y hy => nomatch hy)⟩).mono (fun x s' q => ⟨a3.tr q.1.1, ⟨q.2.1, q.2.2⟩⟩)
theorem kN_pack (k : Nat) (e : Int) (p : Bool) (s : PS) : kN (Pm.pack k e p s) s.nest := by
 unfold Pm.pack
 refine kN_bo (kN_unl e _ s) fun _ s1 h1 => kN_bo (kN_names k e _ _ _) fun t s2 h2 => kN_bo (kN_sign e _ _) fun _ s3 h3 => kN_ok ?_
 rw [h3, h2]
 exact h1
theorem kN_load2 (k : Nat) (e : Int) (n : Nat) (s : PS) : kN (Pm.load2 k e n s) s.nest := by
 unfold Pm.load2
 refine kN_bo (kN_counts e s) fun _ s1 h1 => ?_
 split
 ·exact kN_fail
 ·refine kN_bo (kN_text k e _ _) fun t s2 h2 => ?_
  split
  ·refine kN_bo (kN_sign e _ _) fun _ s3 h3 => kN_ok ?_
   rw [h3]
   show s2.nest = _
   rw [h2]
   exact h1
  ·exact kN_none
theorem kN_topsC (k : Nat) (e : Int) (p : Bool) (f : PFile) (s : PS) : kN (Pm.topsC e k p f s (Pm.bo (some (Pm.unl e false s)) fun _ s => some (.ok ((p, f), s)))) s.nest := by
 unfold Pm.topsC
 split
 ·exact kN_bo (kN_pack k e p s) fun _ s1 h1 => kN_ok h1
 ·split
  ·exact kN_bo (kN_load2 k e _ s) fun _ s1 h1 => kN_ok h1
  ·split
   ·refine kN_bo (kN_message e k s) fun _ s1 h1 => ?_
    split
    ·exact kN_ok h1
    ·exact kN_none
   ·split
    ·refine kN_bo (kN_enum k e s) fun _ s1 h1 => ?_
     split
     ·exact kN_ok h1
     ·exact kN_none
    ·split
     ·exact kN_fail
     ·exact kN_bo (kN_unl e false s) fun _ s1 h1 => kN_ok h1
theorem T_pack (e : Int) (p : Bool) (s : PS) (hs : OKs s) : Tot (fun k => Pm.pack k e p s) (fun _ s' => On s s') := by
 unfold Pm.pack
 refine Tot.bo (T_unl e _ s) ?_
 rintro _ s ⟨rfl, _⟩
 have a1 := Sf.nxt s
 refine Tot.bo (T_names e false false _ (hs.sf a1)) ?_
 rintro t s2 h2
 have a2 := On.rt a1 h2
 refine Tot.bo (T_sign e _ s2) ?_
 rintro _ _ ⟨rfl, _⟩
 exact Tot.ok (a2.tr (Sf.nxt _))
theorem T_load2 (e : Int) (n : Nat) (s : PS) (hs : OKs s) (hn : n < 1099511627776) : Tot (fun k => Pm.load2 k e n s) (fun _ s' => On s s') := by
 unfold Pm.load2
 refine Tot.bo (T_counts e s) ?_
 rintro _ s2 ⟨h2, _⟩
 have a1 : Sf s (Pm.nxt s2) := (Sf.eq h2).trans (Sf.nxt s2)
 refine Tot.ite (fun _ => Tot.err _) (fun _ => ?_)
 refine Tot.bo (T_text e (fun _ => Pm.mayImport) _ (hs.sf a1) (fun t ht r hr => ⟨_, ⟨0, fun _ _ => rfl⟩⟩)) ?_
 rintro t s3 ⟨rfl, h5⟩
 refine Tot.ite (fun _ => ?_) (fun h => absurd hn h)
 have a2 := On.rt a1 (On.nx h5)
 refine Tot.bo (T_sign e _ _) ?_
 rintro _ _ ⟨rfl, _⟩
 exact Tot.ok (a2.tr (Sf.nxt _))
def FI (f : PFile) (s : PS) : Prop := f.f1.length + f.f2.length + f.f3.length + s.left.length ≤ 100000 ∧ (∀ x ∈ f.f2, smallM 33 x) ∧ (∀ x ∈ f.f3, smallE x)
theorem FI.small {f : PFile} {s : PS} (h : FI f s) : smallF 33 f := ⟨by have := h.1; omega, by have := h.1; omega, by have := h.1; omega, h.2.1, h.2.2⟩
theorem T_topsC (e : Int) (p : Bool) (f : PFile) (s : PS) (hs : OKs s) (hn : s.nest = 0) (hF : FI f s) :
  Tot (fun k => Pm.topsC e k p f s (Pm.bo (some (Pm.unl e false s)) fun _ s => some (.ok ((p, f), s)))) (fun x s' => On s s' ∧ FI x.2 s') := by
 have h1 := hF.1
 refine Tot.ite (fun _ => ?_) (fun _ => Tot.ite (fun _ => ?_) (fun _ => Tot.ite (fun _ => ?_) (fun _ => Tot.ite (fun _ => ?_) (fun _ => Tot.ite (fun _ => Tot.err _) (fun _ => ?_)))))
 ·refine Tot.bo (T_pack e p s hs) ?_
  rintro t s2 h2
  have hl := h2.2
  exact Tot.ok ⟨h2, by show f.f1.length + f.f2.length + f.f3.length + _ ≤ _; omega, hF.2⟩
 ·refine Tot.bo (T_load2 e _ s hs (by omega)) ?_
  rintro t s2 h2
  have hl := h2.2
  refine Tot.ok ⟨h2, ?_, hF.2⟩
  show (f.f1 ++ [t]).length + f.f2.length + f.f3.length + _ ≤ _
  rw [List.length_append, List.length_singleton]
  omega
 ·refine Tot.bo (T_message e 33 s hs (by decide) (by rw [hn]; rfl)) ?_
  rintro x s2 ⟨h2, hx⟩
  have hl := h2.2
  refine Tot.ite (fun _ => Tot.ok ⟨h2, ?_, ?_, hF.2.2⟩) (fun h => absurd (show f.f2.length < 549755813888 by omega) h)
  ·show f.f1.length + (f.f2 ++ [x]).length + f.f3.length + _ ≤ _
   rw [List.length_append, List.length_singleton]
   omega
  ·intro y hy
   rcases List.mem_append.mp hy with h | h
   ·exact hF.2.1 y h
   ·rw [List.mem_singleton.mp h]; exact hx
 ·refine Tot.bo (T_enum e s hs) ?_
  rintro x s2 ⟨h2, hx⟩
  have hl := h2.2
  refine Tot.ite (fun _ => Tot.ok ⟨h2, ?_, hF.2.1, ?_⟩) (fun h => absurd (show f.f3.length < 1099511627776 by omega) h)
  ·show f.f1.length + f.f2.length + (f.f3 ++ [x]).length + _ ≤ _
   rw [List.length_append, List.length_singleton]
   omega
  ·intro y hy
   rcases List.mem_append.mp hy with h | h
   ·exact hF.2.2 y h
   ·rw [List.mem_singleton.mp h]; exact ⟨by omega, by omega, by omega⟩
 ·refine Tot.bo (T_unl e false s) ?_
  rintro _ s' ⟨_, h⟩
  exact absurd h (by decide)
theorem T_fileL2 (e : Int) : ∀ (N : Nat) (p : Bool) (f : PFile) (s : PS), s.left.length = N → OKs s → s.nest = 0 → FI f s → Tot (fun k => Pm.fileL2 e k p f s) (fun x s' => smallF 33 x) := by
 intro N
 induction N using Nat.strongRecOn with
 | ind N ih =>
  intro p f s hN hs hn hF
  have h1 := hF.1
  refine Tot.step (fun k => rfl) ?_
  refine Tot.ite (fun _ => Tot.ok hF.small) (fun _ => Tot.ite (fun h => ?_) (fun _ => Tot.ite (fun _ => ?_) (fun _ => ?_)))
  ·have h5 := On.nx (is_ne h (by decide))
   have h6 := h5.2
   exact ih _ (by omega) p f _ rfl (hs.sf h5.1) hn ⟨by omega, hF.2⟩
  ·refine Tot.bo (Tot.nest (T_topsC e p f s hs hn hF) (fun k => kN_topsC k e p f s)) ?_
   rintro x s2 ⟨⟨h2, hF2⟩, hn2⟩
   have hl := h2.2
   exact ih _ (by omega) x.1 x.2 s2 rfl (hs.sf h2.1) (hn2.trans hn) hF2
  ·refine Tot.bo (T_unl e false s) ?_
   rintro _ s' ⟨_, h⟩
   exact absurd h (by decide)
theorem T_file2 (e : Int) (s : PS) (hs : OKs s) (hn : s.nest = 0) : Tot (fun k => Pm.file2 k e s) (fun x s' => smallF 33 x) := by
 unfold Pm.file2
 refine Tot.bo (Tot.nest (T_unl e _ s) (fun _ => kN_unl e _ s)) ?_
 rintro _ s1 ⟨⟨h1, _⟩, n1⟩
 have a1 : Sf s (Pm.nxt s1) := by rw [h1]; exact Sf.nxt s
 refine Tot.bo (Tot.nest (T_sign e _ _) (fun _ => kN_sign e _ _)) ?_
 rintro _ s2 ⟨⟨h2, _⟩, n2⟩
 have a2 : Sf s s2 := by rw [h2]; exact a1.trans (Sf.nxt _)
 refine Tot.bo (Tot.nest (T_text e (fun _ => Pm.mayProto) _ (hs.sf a2) (fun t ht r hr => ⟨_, ⟨0, fun _ _ => rfl⟩⟩)) (fun k => kN_text k e _ _)) ?_
 rintro _ s3 ⟨⟨h3, _⟩, n3⟩
 have a3 : Sf s (Pm.nxt s3) := by rw [h3]; exact a2.trans (Sf.nxt _)
 refine Tot.bo (Tot.nest (T_sign e _ _) (fun _ => kN_sign e _ _)) ?_
 rintro _ s4 ⟨⟨h4, _⟩, n4⟩
 have a4 : Sf s s4 := by rw [h4]; exact a3.trans (Sf.nxt _)
 have hl := (hs.sf a4).1
 refine T_fileL2 e _ false Pm.zfile s4 rfl (hs.sf a4) ?_ ⟨by show 0 + 0 + 0 + _ ≤ _; omega, (fun y hy => nomatch hy), (fun y hy => nomatch hy)⟩
 rw [n4]
 show s3.nest = 0
 rw [n3, n2]
 show s1.nest = 0
 rw [n1]
 exact hn
theorem T_tokens2 (l : List PTok) (h : ∀ t ∈ l, TokOK t) : ∃ r, Ev (fun k => Pm.tokens2 k l) r ∧ smallF 33 r.1 := by
 have hz : smallF 33 Pm.zfile := ⟨by decide, by decide, by decide, (fun y hy => nomatch hy), (fun y hy => nomatch hy)⟩
 by_cases big : (l.length : Int) > 16384
 ·exact ⟨(Pm.zfile, 2, 0), ⟨0, fun k _ => by show Pm.tokens2 k l = _; unfold Pm.tokens2; rw [if_pos big]⟩, hz⟩
 ·obtain ⟨r, ⟨K, hr⟩, hG⟩ := T_file2 (Pm.endOf l) ⟨l, 0, 0⟩ ⟨by show l.length ≤ 16384; omega, h⟩ rfl
  rcases r with x | ⟨f, s'⟩
  ·exact ⟨(Pm.zfile, x.1, x.2), ⟨K, fun k hk => by show Pm.tokens2 k l = _; unfold Pm.tokens2; rw [if_neg big]; have h := hr k hk; dsimp only at h; rw [h]; rfl⟩, hz⟩
  ·exact ⟨(f, 0, 0), ⟨K, fun k hk => by show Pm.tokens2 k l = _; unfold Pm.tokens2; rw [if_neg big]; have h := hr k hk; dsimp only at h; rw [h]; rfl⟩, hG f s' rfl⟩
def Tt {α : Type} (g : Nat → Option α) (P : α → Prop) : Prop := ∃ r, Ev g r ∧ P r
theorem Tt.bind {α β : Type} {g : Nat → Option α} {f : Nat → α → Option β} {P : α → Prop} {Q : β → Prop} (h : Tt g P) (k : ∀ a, P a → Tt (fun n => f n a) Q) : Tt (fun n => (g n).bind (f n)) Q := by
 obtain ⟨a, ha, hp⟩ := h
 obtain ⟨r, hr, hq⟩ := k a hp
 exact ⟨r, Ev.bind ha hr, hq⟩
theorem Tt.some_ {α : Type} {P : α → Prop} {r : α} (h : P r) : Tt (fun _ => some r) P := ⟨r, ⟨0, fun _ _ => rfl⟩, h⟩
theorem Tt.step {α : Type} {f g : Nat → Option α} {P : α → Prop} (h : ∀ k, f (k + 1) = g k) (hg : Tt g P) : Tt f P := let ⟨r, hr, hp⟩ := hg; ⟨r, Ev.step h hr, hp⟩
theorem Tt.congr {α : Type} {f g : Nat → Option α} {P : α → Prop} (h : ∀ k, f k = g k) (hg : Tt g P) : Tt f P := let ⟨r, hr, hp⟩ := hg; ⟨r, Ev.congr h hr, hp⟩
theorem Tt.mono {α : Type} {f : Nat → Option α} {P Q : α → Prop} (h : Tt f P) (k : ∀ a, P a → Q a) : Tt f Q := let ⟨r, hr, hp⟩ := h; ⟨r, hr, k r hp⟩
theorem Tt.ite {α : Type} {c : Prop} [Decidable c] {f g : Nat → Option α} {P : α → Prop} (h1 : c → Tt f P) (h2 : ¬ c → Tt g P) : Tt (fun k => if c then f k else g k) P := by
 by_cases h : c
 ·exact Tt.congr (fun k => if_pos h) (h1 h)
 ·exact Tt.congr (fun k => if_neg h) (h2 h)
theorem Tt.of {α : Type} {g : Nat → Option α} {P : α → Prop} (hg : ∀ k, LeO (g k) (g (k + 1))) {k : Nat} {r : α} (h : g k = some r) (hp : P r) : Tt g P := ⟨r, Ev.of hg h, hp⟩
theorem b_all {P : Int → Prop} (h : ∀ n : Fin 256, P (n.val : Int)) {c : Int} (h0 : 0 ≤ c) (h1 : c ≤ 255) : P c := by
 have := h ⟨c.toNat, by omega⟩
 rwa [show ((c.toNat : Nat) : Int) = c by omega] at this
set_option maxRecDepth 100000 in
theorem cls_any : ∀ n : Fin 256, (scan_class.f 6 (n.val : Int)).any (fun v => decide (0 ≤ v ∧ v < 7)) = true := by decide +kernel
set_option maxRecDepth 100000 in
theorem val_any : ∀ n : Fin 256, (scan_value.f 4 (n.val : Int)).any (fun v => decide (0 ≤ v ∧ v ≤ 99)) = true := by decide +kernel
theorem any_some {α : Type} {o : Option α} {p : α → Bool} (h : o.any p = true) : ∃ v, o = some v ∧ p v = true := by
 cases o with
 | none => cases h
 | some v => exact ⟨v, rfl, h⟩
theorem Tt_class (s : ByteArray) (i : Int) : Tt (fun k => scan_class.f k (bt s i)) (fun v => 0 ≤ v ∧ v < 7) := by
 obtain ⟨v, hv, hp⟩ := any_some (b_all (P := fun c => (scan_class.f 6 c).any (fun v => decide (0 ≤ v ∧ v < 7)) = true) cls_any (bt_range s i).1 (bt_range s i).2)
 exact Tt.of (scan_class.mono _) hv (of_decide_eq_true hp)
theorem Tt_value (s : ByteArray) (i : Int) : Tt (fun k => scan_value.f k (bt s i)) (fun v => 0 ≤ v ∧ v ≤ 99) := by
 obtain ⟨v, hv, hp⟩ := any_some (b_all (P := fun c => (scan_value.f 4 c).any (fun v => decide (0 ≤ v ∧ v ≤ 99)) = true) val_any (bt_range s i).1 (bt_range s i).2)
 exact Tt.of (scan_value.mono _) hv (of_decide_eq_true hp)
theorem Tt_worthL (x4 : Int) (h4 : 8 ≤ x4) (x5 : ByteArray) (hs : x5.size ≤ 140737488355328) (d : Nat) : ∀ (x6 i : Int), 0 ≤ i → (x5.size : Int) - i = d → Tt (fun k => scan_worth.l0 k x4 x5 x6 (x5.size : Int) i) (fun _ => True) := by
 induction d with
 | zero =>
  intro x6 i h0 hd
  refine Tt.step (fun k => rfl) ?_
  exact Tt.ite (fun h => absurd h (by omega)) (fun _ => Tt.some_ trivial)
 | succ d ih =>
  intro x6 i h0 hd
  refine Tt.step (fun k => rfl) ?_
  refine Tt.ite (fun _ => Tt.ite (fun _ => Tt.ite (fun _ => ?_) (fun h => absurd (show i < (x5.size : Int) by omega) h)) (fun h => absurd h0 h)) (fun h => absurd (show i < (x5.size : Int) by omega) h)
  refine Tt.bind (Tt_value x5 i) (fun t ht => ?_)
  refine Tt.ite (fun _ => Tt.some_ trivial) (fun _ => Tt.ite (fun h => absurd h (by omega)) (fun _ => Tt.ite (fun _ => Tt.some_ trivial) (fun _ => ?_)))
  rw [w64_in (i + 1) (by omega)]
  exact ih _ (i + 1) (by omega) (by omega)
theorem Tt_worth1 (x4 : Int) (h4 : 8 ≤ x4) (x5 : ByteArray) (hs : x5.size ≤ 140737488355328) : Tt (fun k => scan_worth.j1 k x4 x5) (fun _ => True) :=
 Tt.step (fun k => rfl) (Tt_worthL x4 h4 x5 hs x5.size 0 0 (by omega) (by omega))
theorem ext_size (s : ByteArray) (a b : Nat) : (s.extract a b).size ≤ s.size := by rw [ByteArray.size_extract]; omega
theorem Tt_worth0 (s : ByteArray) (hs : s.size ≤ 140737488355328) (b : Bool) (hb : b = true → 2 ≤ (s.size : Int)) : Tt (fun k => scan_worth.j0 k s 10 s b) (fun _ => True) := by
 refine Tt.step (fun k => rfl) ?_
 refine Tt.ite (fun h => Tt.ite (fun _ => Tt_worth1 16 (by decide) _ (Nat.le_trans (ext_size _ _ _) hs)) (fun h2 => absurd (hb h) h2)) (fun _ => Tt.ite (fun h1 => Tt.ite (fun _ => Tt.ite (fun _ => Tt.ite (fun _ => Tt_worth1 8 (by decide) _ (Nat.le_trans (ext_size _ _ _) hs)) (fun h => absurd (show 1 ≤ (s.size : Int) by omega) h)) (fun _ => Tt_worth1 10 (by decide) s hs)) (fun h => absurd (show 0 < (s.size : Int) by omega) h)) (fun _ => Tt_worth1 10 (by decide) s hs))
theorem Tt_worth (s : ByteArray) (hs : s.size ≤ 140737488355328) : Tt (fun k => scan_worth.f k s) (fun _ => True) := by
 unfold scan_worth.f
 refine Tt.ite (fun h1 => Tt.ite (fun _ => Tt.ite (fun _ => Tt.ite (fun _ => Tt.ite (fun _ => Tt_worth0 s hs _ (fun _ => by omega)) (fun _ => Tt_worth0 s hs _ (fun _ => by omega))) (fun h => absurd (show 1 < (s.size : Int) by omega) h)) (fun _ => Tt_worth0 s hs _ (fun h => by cases h))) (fun h => absurd (show 0 < (s.size : Int) by omega) h)) (fun _ => Tt_worth0 s hs _ (fun h => by cases h))
theorem Tt_Number (s : ByteArray) : Tt (fun k => scan_Number.f k s) (fun _ => True) := by
 unfold scan_Number.f
 refine Tt.ite (fun _ => Tt.some_ trivial) (fun h => ?_)
 exact Tt.bind (Tt_worth s (by omega)) (fun a _ => Tt.ite (fun _ => Tt.some_ trivial) (fun _ => Tt.some_ trivial))
theorem Tt_row (s : ByteArray) (hs : s.size ≤ 140737488355328) (d : Nat) : ∀ i : Int, 0 ≤ i → i ≤ s.size → (s.size : Int) - i = d → Tt (fun k => scan_row.l0 k s i) (fun r => i ≤ r ∧ r ≤ s.size) := by
 induction d with
 | zero =>
  intro i h0 h1 hd
  refine Tt.step (fun k => rfl) ?_
  exact Tt.ite (fun h => absurd h (by omega)) (fun _ => Tt.some_ ⟨by omega, h1⟩)
 | succ d ih =>
  intro i h0 h1 hd
  refine Tt.step (fun k => rfl) ?_
  refine Tt.ite (fun _ => Tt.ite (fun _ => ?_) (fun h => absurd h0 h)) (fun h => absurd (show i < (s.size : Int) by omega) h)
  refine Tt.bind (Tt_class s i) (fun t ht => ?_)
  have hr := (ih (i + 1) (by omega) (by omega) (by omega)).mono (Q := fun r => i ≤ r ∧ r ≤ s.size) (fun a h => ⟨by omega, h.2⟩)
  rw [w64_in (i + 1) (by omega)]
  exact Tt.ite (fun _ => hr) (fun _ => Tt.ite (fun _ => hr) (fun _ => Tt.some_ ⟨by omega, by omega⟩))
theorem Tt_Ident (s : ByteArray) : Tt (fun k => scan_Ident.f k s) (fun _ => True) := by
 unfold scan_Ident.f
 refine Tt.ite (fun h1 => Tt.ite (fun h2 => Tt.ite (fun _ => ?_) (fun h => absurd (show 0 < (s.size : Int) by omega) h)) (fun _ => Tt.some_ trivial)) (fun _ => Tt.some_ trivial)
 refine Tt.bind (Tt_class s 0) (fun t _ => Tt.ite (fun _ => ?_) (fun _ => Tt.some_ trivial))
 exact Tt.bind (show Tt (fun k => scan_row.f k s) _ from Tt_row s (by omega) s.size 0 (by omega) (by omega) (by omega)) (fun _ _ => Tt.some_ trivial)
theorem Tt_escapeL (s : ByteArray) (hs : s.size ≤ 140737488355328) (x6 x8 x10 : Int) (h10 : 0 ≤ x10) (d : Nat) : ∀ (x7 x9 : Int), 0 ≤ x7 → x7 ≤ s.size → (s.size : Int) - x7 = d → Tt (fun k => scan_escape.l0 k s x6 x7 x8 x9 x10) (fun r => 0 ≤ r.2 ∧ r.2 ≤ s.size) := by
 have fin : ∀ (x7 x9 : Int), 0 ≤ x7 → x7 ≤ s.size → Tt (fun _ => if x7 = x10 then some ((0, 0) : Int × Int) else (if x9 > 255 then some (0, 0) else some (x9 % 256, x7))) (fun r => 0 ≤ r.2 ∧ r.2 ≤ s.size) := fun x7 x9 h0 h1 =>
  Tt.ite (fun _ => Tt.some_ ⟨by decide, by show (0 : Int) ≤ _; omega⟩) (fun _ => Tt.ite (fun _ => Tt.some_ ⟨by decide, by show (0 : Int) ≤ _; omega⟩) (fun _ => Tt.some_ ⟨h0, h1⟩))
 induction d with
 | zero =>
  intro x7 x9 h0 h1 hd
  refine Tt.step (fun k => rfl) ?_
  exact Tt.ite (fun h => absurd h (by omega)) (fun _ => fin x7 x9 h0 h1)
 | succ d ih =>
  intro x7 x9 h0 h1 hd
  refine Tt.step (fun k => rfl) ?_
  refine Tt.ite (fun _ => Tt.ite (fun _ => Tt.ite (fun _ => ?_) (fun h => absurd h0 h)) (fun _ => fin x7 x9 h0 h1)) (fun _ => fin x7 x9 h0 h1)
  refine Tt.bind (Tt_value s x7) (fun t _ => Tt.ite (fun _ => Tt.bind (Tt_value s x7) (fun u _ => ?_)) (fun _ => fin x7 x9 h0 h1))
  rw [w64_in (x7 + 1) (by omega)]
  exact ih (x7 + 1) _ (by omega) (by omega) (by omega)
set_option maxRecDepth 100000 in
theorem simple_any : ∀ n : Fin 256, (scan_simple.f (n.val : Int)).any (fun _ => true) = true := by decide +kernel
theorem toList_nil (s : ByteArray) : (s.toList = ([] : List UInt8)) ↔ s.size = 0 := by
 rw [ByteArray.toList_eq]
 constructor
 ·intro h
  have := congrArg List.length h
  rw [Array.length_toList] at this
  exact this
 ·intro h
  apply List.eq_nil_of_length_eq_zero
  rw [Array.length_toList]
  exact h
theorem toList_ne {s : ByteArray} (h : ¬ s.toList = ([] : List UInt8)) : 0 < s.size := Nat.pos_of_ne_zero (fun e => h ((toList_nil s).2 e))
theorem Tt_escape (s : ByteArray) (hs : s.size ≤ 140737488355328) : Tt (fun k => scan_escape.f k s) (fun r => 0 ≤ r.2 ∧ r.2 ≤ s.size) := by
 unfold scan_escape.f
 refine Tt.ite (fun _ => Tt.some_ ⟨by decide, by show (0 : Int) ≤ _; omega⟩) (fun hne => ?_)
 have h0 := toList_ne hne
 refine Tt.ite (fun _ => ?_) (fun h => absurd (show 0 < (s.size : Int) by omega) h)
 obtain ⟨v, hv, _⟩ := any_some (b_all (P := fun c => (scan_simple.f c).any (fun _ => true) = true) simple_any (bt_range s 0).1 (bt_range s 0).2)
 refine Tt.bind (g := fun _ => scan_simple.f (bt s 0)) (P := fun _ => True) ⟨v, ⟨0, fun _ _ => hv⟩, trivial⟩ (fun a _ => Tt.ite (fun _ => Tt.some_ ⟨by show (0 : Int) ≤ 1; decide, by show (1 : Int) ≤ _; omega⟩) (fun _ => ?_))
 have j0 : ∀ b : Bool, Tt (fun k => scan_escape.j0 k s 8 0 3 b) (fun r => 0 ≤ r.2 ∧ r.2 ≤ s.size) := fun b => by
  refine Tt.step (fun k => rfl) ?_
  refine Tt.ite (fun _ => Tt.step (fun k => rfl) ?_) (fun _ => Tt.step (fun k => rfl) ?_)
  ·exact Tt_escapeL s hs 16 2 1 (by decide) (s.size - 1) 1 0 (by decide) (by omega) (by omega)
  ·exact Tt_escapeL s hs 8 3 0 (by decide) s.size 0 0 (by decide) (by omega) (by omega)
 exact Tt.ite (fun _ => j0 _) (fun _ => j0 _)
theorem Tt_unqL (s : ByteArray) (hs : s.size ≤ 1099511627776) : ∀ (N : Nat) (l : List Int) (x6 : Int), 1 ≤ x6 → x6 ≤ s.size → (s.size : Int) - x6 = N → (l.length : Int) ≤ x6 → Tt (fun k => scan_unquoted.l0 k s l x6) (fun r => r.2.2 = true → 1 ≤ r.2.1 ∧ r.2.1 ≤ s.size) := by
 intro N
 induction N using Nat.strongRecOn with
 | ind N ih =>
  intro l x6 h1 h2 hN hl
  refine Tt.step (fun k => rfl) ?_
  refine Tt.ite (fun hlt => Tt.ite (fun _ => Tt.ite (fun _ => ?_) (fun h => absurd (show 0 < (s.size : Int) by omega) h)) (fun h => absurd (show 0 ≤ x6 by omega) h)) (fun _ => Tt.some_ (fun h => by cases h))
  have J : ∀ b : Bool, Tt (fun k => scan_unquoted.j2 k s l x6 (bt s x6) (bt s x6) b) (fun r => r.2.2 = true → 1 ≤ r.2.1 ∧ r.2.1 ≤ s.size) := fun b => by
   refine Tt.step (fun k => rfl) ?_
   have hx : (s.extract (x6 + 1).toNat s.size).size = s.size - (x6 + 1).toNat := by rw [ByteArray.size_extract]; omega
   refine Tt.ite (fun _ => Tt.some_ (fun h => by cases h)) (fun _ => Tt.ite (fun _ => ?_) (fun _ => Tt.ite (fun _ => ?_) (fun h => absurd (show l.length < 140737488355328 by omega) h)))
   ·rw [w64_in (x6 + 1) (by omega)]
    refine Tt.ite (fun _ => Tt.ite (fun _ => ?_) (fun h => absurd (show x6 + 1 ≤ (s.size : Int) by omega) h)) (fun h => absurd (show 0 ≤ x6 + 1 by omega) h)
    refine Tt.bind (Tt_escape _ (by rw [hx]; omega)) (fun r hr => Tt.ite (fun _ => Tt.some_ (fun h => by cases h)) (fun hr0 => Tt.ite (fun _ => ?_) (fun h => absurd (show l.length < 140737488355328 by omega) h)))
    rw [hx] at hr
    rw [w64_in (1 + r.2) (by omega), w64_in (x6 + (1 + r.2)) (by omega)]
    exact ih ((s.size : Int) - (x6 + (1 + r.2))).toNat (by omega) _ _ (by omega) (by omega) (by omega) (by rw [List.length_append, List.length_singleton]; omega)
   ·rw [w64_in (x6 + 1) (by omega)]
    exact ih ((s.size : Int) - (x6 + 1)).toNat (by omega) _ _ (by omega) (by omega) (by omega) (by rw [List.length_append, List.length_singleton]; omega)
  refine Tt.ite (fun _ => Tt.some_ (fun _ => ?_)) (fun _ => Tt.ite (fun _ => J _) (fun _ => J _))
  show 1 ≤ wrap64 (x6 + 1) ∧ wrap64 (x6 + 1) ≤ _
  rw [w64_in (x6 + 1) (by omega)]
  omega
theorem Tt_unquoted (s : ByteArray) (hs : s.size ≤ 1099511627776) : Tt (fun k => scan_unquoted.f k s) (fun r => r.2.2 = true → 1 ≤ r.2.1 ∧ r.2.1 ≤ s.size) := by
 have j0 : 0 < s.size → ∀ b : Bool, Tt (fun k => scan_unquoted.j0 k s b) (fun r => r.2.2 = true → 1 ≤ r.2.1 ∧ r.2.1 ≤ s.size) := fun h0 b => by
  refine Tt.step (fun k => rfl) ?_
  exact Tt.ite (fun _ => Tt.some_ (fun h => by cases h)) (fun _ => Tt_unqL s hs (s.size - 1) [] 1 (by decide) (by omega) (by omega) (by show (0 : Int) ≤ 1; decide))
 unfold scan_unquoted.f
 refine Tt.ite (fun h => ?_) (fun hne => ?_)
 ·exact Tt.step (g := fun _ => some ((⟨#[]⟩ : ByteArray), (0 : Int), false)) (fun k => rfl) (Tt.some_ (by intro h; cases h))
 ·have h0 := toList_ne hne
  refine Tt.ite (fun _ => ?_) (fun h => absurd (show 0 < (s.size : Int) by omega) h)
  exact Tt.bind (Tt_class s 0) (fun t _ => j0 h0 _)
theorem Tt_charL1 (s : ByteArray) (hs : s.size ≤ 1099511627776) (a i : Int) (ha : 0 ≤ a) (hm : 0 ≤ wmore i ∧ wmore i ≤ 3) (hl : a + wmore i < s.size) (d : Nat) : ∀ j : Int, 1 ≤ j → wmore i + 1 - j = d → Tt (fun k => wire_character.l1 k s a i j) (fun r => 0 ≤ r ∧ r ≤ 4 ∧ a + r ≤ s.size) := by
 induction d with
 | zero =>
  intro j h1 hd
  refine Tt.step (fun k => rfl) ?_
  exact Tt.ite (fun h => absurd h (by omega)) (fun _ => Tt.some_ ⟨by omega, by omega, by omega⟩)
 | succ d ih =>
  intro j h1 hd
  refine Tt.step (fun k => rfl) ?_
  refine Tt.ite (fun _ => ?_) (fun h => absurd (show j ≤ wmore i by omega) h)
  rw [w64_in (a + j) (by omega), w64_in (j + 1) (by omega)]
  exact Tt.ite (fun _ => Tt.ite (fun _ => Tt.ite (fun _ => Tt.some_ ⟨by decide, by decide, by show a + 0 ≤ _; omega⟩) (fun _ => Tt.ite (fun _ => Tt.some_ ⟨by decide, by decide, by show a + 0 ≤ _; omega⟩) (fun _ => ih (j + 1) (by omega) (by omega)))) (fun h => absurd (show a + j < (s.size : Int) by omega) h)) (fun h => absurd (show 0 ≤ a + j by omega) h)
theorem wmore_all : ∀ n : Fin 9, 0 ≤ wmore (n.val : Int) ∧ wmore (n.val : Int) ≤ 3 := by decide +kernel
theorem Tt_charL0 (s : ByteArray) (hs : s.size ≤ 1099511627776) (a : Int) (ha : 0 ≤ a) (hl : a < s.size) (d : Nat) : ∀ i : Int, 0 ≤ i → 9 - i = d → Tt (fun k => wire_character.l0 k s a i) (fun r => 0 ≤ r ∧ r ≤ 4 ∧ a + r ≤ s.size) := by
 induction d with
 | zero =>
  intro i h0 hd
  refine Tt.step (fun k => rfl) ?_
  exact Tt.ite (fun h => absurd h (by omega)) (fun _ => Tt.some_ ⟨by decide, by decide, by show a + 0 ≤ _; omega⟩)
 | succ d ih =>
  intro i h0 hd
  have hw : 0 ≤ wmore i ∧ wmore i ≤ 3 := by
   have := wmore_all ⟨i.toNat, by omega⟩
   rwa [show ((i.toNat : Nat) : Int) = i by omega] at this
  refine Tt.step (fun k => rfl) ?_
  refine Tt.ite (fun _ => Tt.ite (fun _ => Tt.ite (fun _ => ?_) (fun h => absurd hl h)) (fun h => absurd ha h)) (fun h => absurd (show i < 9 by omega) h)
  rw [w64_in (i + 1) (by omega), w64_in (a + wmore i) (by omega)]
  have hi := ih (i + 1) (by omega) (by omega)
  exact Tt.ite (fun _ => hi) (fun _ => Tt.ite (fun _ => hi) (fun _ => Tt.ite (fun _ => Tt.some_ ⟨by decide, by decide, by show a + 0 ≤ _; omega⟩) (fun h => Tt_charL1 s hs a i ha hw (by omega) (wmore i).toNat 1 (by decide) (by omega))))
theorem Tt_utf8 (s : ByteArray) (hs : s.size ≤ 1099511627776) : ∀ (N : Nat) (a : Int), 0 ≤ a → a ≤ s.size → (s.size : Int) - a ≤ N → Tt (fun k => wire_Utf8.l0 k s a) (fun r => r = -1 ∨ 0 ≤ r ∧ r ≤ s.size) := by
 intro N
 induction N with
 | zero =>
  intro a h0 h1 hN
  refine Tt.step (fun k => rfl) ?_
  exact Tt.ite (fun h => absurd h (by omega)) (fun _ => Tt.some_ (.inl rfl))
 | succ N ih =>
  intro a h0 h1 hN
  refine Tt.step (fun k => rfl) ?_
  refine Tt.ite (fun hlt => ?_) (fun _ => Tt.some_ (.inl rfl))
  refine Tt.bind (show Tt (fun k => wire_character.f k s a) _ from Tt_charL0 s hs a h0 hlt 9 0 (by decide) (by decide)) (fun t ht => Tt.ite (fun _ => Tt.some_ (.inr ⟨h0, h1⟩)) (fun hn => ?_))
  rw [w64_in (a + t) (by omega)]
  exact ih (a + t) (by omega) (by omega) (by omega)
theorem Tt_Unquote (s : ByteArray) : Tt (fun k => scan_Unquote.f k s) (fun _ => True) := by
 unfold scan_Unquote.f
 refine Tt.ite (fun _ => Tt.some_ trivial) (fun h => ?_)
 refine Tt.bind (show Tt (fun k => wire_Utf8.f k s) _ from Tt_utf8 s (by omega) s.size 0 (by decide) (by omega) (by omega)) (fun t _ => Tt.ite (fun _ => Tt.some_ trivial) (fun _ => ?_))
 exact Tt.bind (Tt_unquoted s (by omega)) (fun a _ => Tt.ite (fun _ => Tt.ite (fun _ => Tt.some_ trivial) (fun _ => Tt.some_ trivial)) (fun _ => Tt.some_ trivial))
theorem TokOK_all (t : PTok) : TokOK t := by
 obtain ⟨b, hb, _⟩ := Tt_Ident t.f2
 obtain ⟨n, hn, _⟩ := Tt_Number t.f2
 obtain ⟨r, hr, _⟩ := Tt_Unquote t.f2
 obtain ⟨b2, hb2, _⟩ := Tt_Ident r.1
 exact ⟨⟨b, hb⟩, ⟨n, hn⟩, ⟨r, hr, b2, hb2⟩⟩
theorem tokens_all (l : List PTok) : ∃ r, Ev (fun k => Pm.tokens2 k l) r ∧ smallF 33 r.1 := T_tokens2 l (fun t _ => TokOK_all t)
end Go.Proofs.YtgkodenllfpajaaDoor.A
end
