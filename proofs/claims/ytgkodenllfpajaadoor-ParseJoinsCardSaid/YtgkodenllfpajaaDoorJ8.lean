/- Lemmas and walks for the claim; no condition beyond what each states. -/
import Derived.Test.YtgkodenllfpajaaDoorJ7
section
namespace Go.Proofs.YtgkodenllfpajaaDoor.A
open Go.RowKit Go.Proofs.YtgkodenllfpajaaDoorW.PrintWords Go.Proofs.YtgkodenllfpajaaDoorW.PrintLast Go.Proofs.YtgkodenllfpajaaDoorW.PrintMore
set_option linter.unusedVariables false
set_option linter.unusedSimpArgs false
theorem Ev.uniq {α : Type} {g : Nat → Option α} {a b : α} (h : Ev g a) (k : Ev g b) : a = b := by
  obtain ⟨K, h⟩ := h
  obtain ⟨K', k⟩ := k
  exact Option.some.inj ((h (max K K') (by omega)).symm.trans (k (max K K') (by omega)))
theorem index_up (sub : List UInt8) : ∀ l : List UInt8, Lib.index l sub ≥ 0 → Lib.index l sub + sub.length ≤ l.length
  | [], h => by
    unfold Lib.index at h ⊢
    by_cases c : sub.isEmpty = true
    · rw [if_pos c]; rw [List.isEmpty_iff.mp c]; decide
    · rw [if_neg c] at h; exact absurd h (by decide)
  | b :: l, h => by
    unfold Lib.index at h ⊢
    by_cases c : sub.isPrefixOf (b :: l) = true
    · rw [if_pos c]
      have := (List.isPrefixOf_iff_prefix.mp c).length_le
      omega
    · rw [if_neg c] at h ⊢
      by_cases d : (Lib.index l sub == -1) = true
      · rw [if_pos d] at h; exact absurd h (by decide)
      · rw [if_neg d] at h ⊢
        have hg := Lib.index_ge l sub
        have hne : Lib.index l sub ≠ -1 := fun e => d (by rw [e]; rfl)
        have := index_up sub l (by omega)
        rw [List.length_cons]
        omega
theorem indexByte_up (c : UInt8) : ∀ l : List UInt8, Lib.indexByte l c ≤ l.length
  | [] => by unfold Lib.indexByte; decide
  | b :: l => by
    have := indexByte_up c l
    unfold Lib.indexByte
    rw [List.length_cons]
    split
    · omega
    · split
      · omega
      · omega
theorem indexByte_head (c b : UInt8) (l : List UInt8) (h : b ≠ c) : Lib.indexByte (b :: l) c ≠ 0 := by
  have hg := Lib.indexByte_ge l c
  unfold Lib.indexByte
  rw [if_neg (by simpa using h)]
  split
  · decide
  · rename_i h2
    have : Lib.indexByte l c ≠ -1 := fun e => h2 (by rw [e]; rfl)
    omega
theorem Tt_prefix (t : ByteArray) (x y : UInt8) : ∃ b, strings_HasPrefix.f t ⟨#[x, y]⟩ = some b ∧ (b = true → 2 ≤ t.size) := by
  unfold strings_HasPrefix.f stringslite_HasPrefix.f
  have h2 : ((⟨#[x, y]⟩ : ByteArray).size : Int) = 2 := rfl
  rw [h2]
  by_cases c : (t.size : Int) ≥ 2
  · rw [if_pos c, if_pos (by decide), if_pos c]
    exact ⟨_, rfl, fun _ => by omega⟩
  · rw [if_neg c]
    exact ⟨_, rfl, fun h => by cases h⟩
def Pc (t : ByteArray) (p : Int × Int × Int) : Prop := p.2.2 = 0 → 1 ≤ p.2.1 ∧ p.2.1 ≤ t.size
theorem Tt_row_first (t : ByteArray) (hs : t.size ≤ 1099511627776) (h0 : 0 < t.size) (c : Int) (hc : Ev (fun k => scan_class.f k (bt t 0)) c) (h23 : c = 2 ∨ c = 3) : Tt (fun k => scan_row.f k t) (fun r => 1 ≤ r ∧ r ≤ t.size) := by
  show Tt (fun k => scan_row.l0 k t 0) _
  refine Tt.step (fun k => rfl) ?_
  refine Tt.ite (fun _ => Tt.ite (fun _ => ?_) (fun h => absurd (by decide) h)) (fun h => absurd (show (0 : Int) < (t.size : Int) by omega) h)
  refine Tt.bind (P := (· = c)) ⟨c, hc, rfl⟩ (fun a ha => ?_)
  subst ha
  rw [w64_in (0 + 1) (by decide)]
  have hr := Tt_row t (by omega) (t.size - 1) (0 + 1) (by decide) (by omega) (by omega)
  exact Tt.ite (fun _ => hr) (fun h2 => Tt.ite (fun _ => hr) (fun h3 => absurd h23 (fun h => h.elim h2 h3)))
theorem Tt_comment (t : ByteArray) (hs : t.size ≤ 65536) (h0 : 0 < t.size) (h10 : bt t 0 ≠ 10) : Tt (fun _ => scan_comment.f t) (Pc t) := by
  unfold scan_comment.f
  obtain ⟨b1, e1, g1⟩ := Tt_prefix t 47 47
  obtain ⟨b2, e2, g2⟩ := Tt_prefix t 47 42
  rw [e1, e2]
  refine Tt.bind (g := fun _ => some b1) (P := (· = b1)) (Tt.some_ rfl) (fun a ha => ?_)
  subst ha
  refine Tt.ite (fun _ => ?_) (fun _ => ?_)
  · refine Tt.bind (g := fun _ => strings_IndexByte.f t 10) (P := fun r => r = Lib.indexByte t.data.toList 10) ⟨_, ⟨0, fun _ _ => rfl⟩, rfl⟩ (fun r hr => ?_)
    refine Tt.ite (fun hge => Tt.some_ (fun _ => ?_)) (fun _ => Tt.some_ (fun _ => ⟨by show 1 ≤ (t.size : Int); omega, Int.le_refl _⟩))
    subst hr
    have hup := indexByte_up 10 t.data.toList
    have hlen : t.data.toList.length = t.size := by rw [Array.length_toList]; rfl
    refine ⟨?_, by show Lib.indexByte t.data.toList 10 ≤ (t.size : Int); omega⟩
    have hne : Lib.indexByte t.data.toList 10 ≠ 0 := by
      obtain ⟨b, l, hbl⟩ : ∃ b l, t.data.toList = b :: l := by
        cases hh : t.data.toList with
        | nil => rw [hh] at hlen; exact absurd hlen (by simp; omega)
        | cons b l => exact ⟨b, l, rfl⟩
      rw [hbl]
      refine indexByte_head 10 b l (fun e => h10 ?_)
      unfold bt
      rw [dif_pos (show (0 : Int).toNat < t.size from h0)]
      have : t[(0 : Int).toNat]'h0 = b := by
        have h1 : t.data.toList[0]? = some b := by rw [hbl]; rfl
        rw [Array.getElem?_toList, Array.getElem?_eq_getElem (show 0 < t.data.size from h0)] at h1
        exact Option.some.inj h1
      rw [this, e]
      rfl
    show 1 ≤ Lib.indexByte t.data.toList 10
    omega
  · refine Tt.bind (g := fun _ => some b2) (P := (· = b2)) (Tt.some_ rfl) (fun a ha => ?_)
    subst ha
    refine Tt.ite (fun hb => ?_) (fun _ => Tt.some_ (fun h => absurd h (by decide)))
    have h2 := g2 hb
    refine Tt.ite (fun _ => ?_) (fun h => absurd (show (2 : Int) ≤ (t.size : Int) by omega) h)
    have hx : (t.extract 2 t.size).size = t.size - 2 := by rw [ByteArray.size_extract]; omega
    refine Tt.bind (g := fun _ => strings_Index.f (t.extract 2 t.size) ⟨#[42, 47]⟩) (P := fun r => r = Lib.index (t.extract 2 t.size).data.toList [42, 47]) ⟨_, ⟨0, fun _ _ => by show strings_Index.f _ _ = _; unfold strings_Index.f; rw [if_pos (by rw [hx]; omega)]⟩, rfl⟩ (fun r hr => ?_)
    refine Tt.ite (fun hge => Tt.some_ (fun _ => ?_)) (fun _ => Tt.some_ (fun h => absurd h (by decide)))
    subst hr
    have hup := index_up [42, 47] (t.extract 2 t.size).data.toList hge
    have hlen : (t.extract 2 t.size).data.toList.length = t.size - 2 := by rw [Array.length_toList]; exact hx
    have h22 : ([42, 47] : List UInt8).length = 2 := rfl
    rw [hlen, h22] at hup
    show 1 ≤ wrap64 (_ + 4) ∧ wrap64 (_ + 4) ≤ _
    rw [w64_in _ (by omega)]
    omega
theorem Tt_number (t : ByteArray) (hs : t.size ≤ 65536) (h0 : 0 < t.size) (c : Int) (hc : Ev (fun k => scan_class.f k (bt t 0)) c) (h3 : c = 3) : Tt (fun k => scan_number.f k t) (Pc t) := by
  unfold scan_number.f
  refine Tt.bind (Tt_row_first t (by omega) h0 c hc (Or.inr h3)) (fun r hr => ?_)
  refine Tt.ite (fun _ => Tt.ite (fun _ => ?_) (fun h => absurd hr.2 h)) (fun h => absurd (show 0 ≤ r by omega) h)
  refine Tt.bind (Tt_worth _ (Nat.le_trans (ext_size _ _ _) (by omega))) (fun a _ => Tt.ite (fun _ => Tt.some_ (fun _ => hr)) (fun _ => Tt.some_ (fun h => absurd h (by decide))))
theorem Tt_str (t : ByteArray) (hs : t.size ≤ 65536) : Tt (fun k => scan_str.f k t) (Pc t) := by
  unfold scan_str.f
  exact Tt.bind (Tt_unquoted t (by omega)) (fun r hr => Tt.ite (fun h => Tt.some_ (fun _ => hr h)) (fun _ => Tt.some_ (fun h => absurd h (by decide))))
theorem Tt_disp (t : ByteArray) (hs : t.size ≤ 65536) (h0 : 0 < t.size) (c : Int) (hr : 0 ≤ c ∧ c < 7) (hc : Ev (fun k => scan_class.f k (bt t 0)) c) : Tt (fun k => scan_disp k c t) (Pc t) := by
  have h1 : (1 : Int) ≤ t.size := by omega
  unfold scan_disp
  refine Tt.ite (fun _ => Tt.some_ (fun h => absurd h (by decide))) (fun c0 => Tt.ite (fun _ => Tt.some_ (fun _ => ⟨Int.le_refl 1, h1⟩)) (fun c1 => Tt.ite (fun h2 => ?_) (fun c2 => Tt.ite (fun h3 => Tt_number t hs h0 c hc h3) (fun c3 => Tt.ite (fun _ => Tt_str t hs) (fun c4 => Tt.ite (fun _ => Tt.some_ (fun _ => ⟨Int.le_refl 1, h1⟩)) (fun c5 => Tt.ite (fun h6 => Tt_comment t hs h0 ?_) (fun c6 => absurd hr (by omega))))))))
  · exact Tt.bind (Tt_row_first t (by omega) h0 c hc (Or.inl h2)) (fun r hr => Tt.some_ (fun _ => hr))
  · intro e
    rw [e] at hc
    have h := Ev.uniq hc (Ev.of (scan_class.mono 10) (show scan_class.f 6 10 = some 1 by decide +kernel))
    omega
theorem bt_ext (s : ByteArray) (a : Nat) (h : a < s.size) : bt (s.extract a s.size) 0 = bt s (a : Int) := by
  have hx : (s.extract a s.size).size = s.size - a := by rw [ByteArray.size_extract]; omega
  unfold bt
  rw [dif_pos (show (0 : Int).toNat < (s.extract a s.size).size by rw [hx]; show 0 < _; omega), dif_pos (show (a : Int).toNat < s.size by omega)]
  have e : (a : Int).toNat = a + (0 : Int).toNat := by omega
  simp only [e]
  rw [ByteArray.getElem_extract]
theorem Tt_tokL (s : ByteArray) (hs : s.size ≤ 65536) : ∀ (N : Nat) (l : List PTok) (a : Int), 0 ≤ a → a ≤ s.size → (s.size : Int) - a = N → (l.length : Int) ≤ a → Tt (fun k => scan_Tokens.l0 k s l a) (fun _ => True) := by
  intro N
  induction N using Nat.strongRecOn with
  | ind N ih =>
    intro l a h0 h1 hN hl
    refine Tt.step (fun k => rfl) ?_
    refine Tt.ite (fun _ => Tt.ite (fun _ => Tt.some_ trivial) (fun h => absurd (show l.length < 4398046511104 by omega) h)) (fun hne => ?_)
    refine Tt.ite (fun _ => Tt.ite (fun hlt => ?_) (fun h => absurd (show a < (s.size : Int) by omega) h)) (fun h => absurd h0 h)
    have hcE : Tt (fun k => scan_class.f k (bt s a)) (fun v => (0 ≤ v ∧ v < 7) ∧ Ev (fun k => scan_class.f k (bt s a)) v) := by
      obtain ⟨v, hv, hp⟩ := Tt_class s a
      exact ⟨v, hv, hp, hv⟩
    refine Tt.bind hcE (fun c hc => ?_)
    have hx : (s.extract a.toNat s.size).size = s.size - a.toNat := by rw [ByteArray.size_extract]; omega
    have hb : bt (s.extract a.toNat s.size) 0 = bt s a := by
      rw [bt_ext s a.toNat (by omega), show ((a.toNat : Nat) : Int) = a by omega]
    refine Tt.bind (Tt_disp (s.extract a.toNat s.size) (by rw [hx]; omega) (by rw [hx]; omega) c hc.1 (by rw [hb]; exact hc.2)) (fun p hp => ?_)
    refine Tt.ite (fun _ => Tt.some_ trivial) (fun _ => Tt.ite (fun _ => Tt.some_ trivial) (fun hz => ?_))
    obtain ⟨g1, g2⟩ := hp (Decidable.byContradiction hz)
    rw [hx] at g2
    rw [w64_in (a + p.2.1) (by omega)]
    refine Tt.ite (fun _ => ?_) (fun _ => Tt.ite (fun _ => Tt.ite (fun _ => Tt.ite (fun _ => ?_) (fun h => absurd (show l.length < 4398046511104 by omega) h)) (fun h => absurd (show a + p.2.1 ≤ (s.size : Int) by omega) h)) (fun h => absurd (show a ≤ a + p.2.1 by omega) h))
    · exact ih ((s.size : Int) - (a + p.2.1)).toNat (by omega) _ _ (by omega) (by omega) (by omega) (by omega)
    · exact ih ((s.size : Int) - (a + p.2.1)).toNat (by omega) _ _ (by omega) (by omega) (by omega) (by rw [List.length_append, List.length_singleton]; omega)
theorem Tt_Tokens (s : ByteArray) : Tt (fun k => scan_Tokens.f k s) (fun _ => True) := by
  unfold scan_Tokens.f
  refine Tt.ite (fun _ => Tt.some_ trivial) (fun h => ?_)
  refine Tt.bind (show Tt (fun k => wire_Utf8.f k s) _ from Tt_utf8 s (by omega) s.size 0 (by decide) (by omega)) (fun t _ => Tt.ite (fun _ => Tt.some_ trivial) (fun _ => ?_))
  exact Tt_tokL s (by omega) s.size [] 0 (by decide) (by omega) (by omega) (by decide)
theorem parse_all (t : ByteArray) : ∃ k x r, scan_Tokens.f k t = some x ∧ Pm.tokens2 k x.1 = some r ∧ smallF 33 r.1 := by
  obtain ⟨x, ⟨K1, h1⟩, _⟩ := Tt_Tokens t
  obtain ⟨r, ⟨K2, h2⟩, hs⟩ := tokens_all x.1
  exact ⟨max K1 K2, x, r, h1 _ (by omega), h2 _ (by omega), hs⟩
end Go.Proofs.YtgkodenllfpajaaDoor.A
end
section
namespace Go.Proofs.YtgkodenllfpajaaDoor.A
open Go.RowKit Go.Proofs.YtgkodenllfpajaaDoorW.PrintWords Go.Proofs.YtgkodenllfpajaaDoorW.PrintLast Go.Proofs.YtgkodenllfpajaaDoorW.PrintMore
set_option linter.unusedVariables false
set_option linter.unusedSimpArgs false
open Classical in
noncomputable def sigillaw5_ParseJoins.f (_ : Nat) (l0 : List ByteArray) : Option Bool := if l0.length < 4611686018427387904 then some true else none
theorem small_zfile : smallF 33 Pm.zfile := ⟨by decide, by decide, by decide, (fun y hy => nomatch hy), (fun y hy => nomatch hy)⟩
set_option maxHeartbeats 8000000 in
set_option maxRecDepth 100000 in
theorem sigillaw5_ParseJoins.calls (k : Nat) (A0 : Option Addr) (c0 : Nat) (l0 : List ByteArray) (r : Bool) (w : World) (hr0 : Kd.C Kd.string w A0 l0.length l0) (hc0 : l0.length ≤ c0) (h : sigillaw5_ParseJoins.f k l0 = some r) (hL : LaidW w) :
    Calls Tryd.prog 4 #[.slice A0 l0.length c0] w fun e w' => e = .returned (.bool r) ∧ Below w.heap.size w w' := by
  unfold sigillaw5_ParseJoins.f at h
  by_cases hp : l0.length < 4611686018427387904
  · rw [if_pos hp] at h
    obtain rfl := Option.some.inj h
    have HR0 := Aside0.mk hr0
    have HC0 := Aside0.mk hc0
    have HW := Aside0.mk hp
    have HL := Aside0.mk hL
    have hx0 : ∀ (u v : Value) (w : World), (Instr.extract (.tuple #[u, v]) 0).run Tryd.prog w = .ok u w := fun u v w => by kernel_rfl
    have hx1 : ∀ (u v : Value) (w : World), (Instr.extract (.tuple #[u, v]) 1).run Tryd.prog w = .ok v w := fun u v w => by kernel_rfl
    have hu32 := Tryd.underlying32
    clear hr0 hc0 hp h hL
    go_enter Tryd.func4, Tryd.ntmps4
    go_wp2_with fail
    refine (known_calls _ HL.out).mono ?_
    rintro e w1 ⟨rfl, hB⟩
    have HB1 := Aside0.mk hB
    clear hB
    go_wp2
    go_loopg [3] l0.length (fun kq v3 w' => ∃ i : Int, v3 = .int .i64 i ∧ Aside0 (0 ≤ i ∧ (kq : Int) + i = (l0.length : Int)) ∧ Aside0 (Below w.heap.size w w'))
    case atStart => exact ⟨0, rfl, ⟨⟨Int.le_refl 0, by omega⟩⟩, HB1⟩
    case round =>
      obtain ⟨i, rfl, HK, HB⟩ := hrel
      cases gk with
      | zero =>
        have hd : decide (i < (l0.length : Int)) = false := decide_eq_false (by have := HK.out; omega)
        go_wp2
        go_ret
        exact ⟨rfl, HB.out⟩
      | succ k1 =>
        have hi0 : 0 ≤ i := HK.out.1
        have hi1 : i < (l0.length : Int) := by have := HK.out; omega
        have hd : decide (i < (l0.length : Int)) = true := decide_eq_true hi1
        obtain ⟨ad0, e0, a0⟩ := Kd.at_string (Kd.C_below HR0.out HB.out) i hi0 hi1
        cases e0
        obtain ⟨tx, htx⟩ : ∃ t, t = rdOf ByteArray.empty l0 i := ⟨_, rfl⟩
        rw [← htx] at a0
        obtain ⟨kk, ⟨l, at_, er⟩, r0, hs, ht, hsm⟩ := parse_all tx
        obtain ⟨rr, hrr⟩ : ∃ rr : PFile × Int × Int, rr = if er = 0 then r0 else (Pm.zfile, er, at_) := ⟨_, rfl⟩
        have hps : Pm.parse2 kk tx = some rr := by
          unfold Pm.parse2
          rw [hs, hrr]
          show (if er = 0 then Pm.tokens2 kk l else some (Pm.zfile, er, at_)) = _
          by_cases c : er = 0
          · rw [if_pos c, if_pos c]; exact ht
          · rw [if_neg c, if_neg c]
        have hsr : smallF 33 rr.1 := by
          rw [hrr]
          by_cases c : er = 0
          · rw [if_pos c]; exact hsm
          · rw [if_neg c]; exact small_zfile
        have HS := Aside0.mk hs
        have HT := Aside0.mk ht
        have HPs := Aside0.mk hps
        have HSr := Aside0.mk hsr
        have HRr := Aside0.mk hrr
        have hbl := World.block_lt_of_cell? wr _ a0
        have HLr := Aside0.mk (HL.out.ch (Ch.of_below HB.out (fun _ => False)) (fun h => h) (fun h => h))
        clear hs ht hps hsr hrr hsm htx
        replace hi0 := eq_true hi0
        replace hi1 := eq_true hi1
        go_wp2_with fail
        refine (parse_calls kk _ rr HPs.out wr HLr.out).mono ?_
        rintro e wa ⟨v1, v2, v3, rfl, r1, r2, r3, hC⟩
        obtain ⟨A1, c1, rfl, m1, p1⟩ := Kd.R_reads r1
        obtain ⟨A2, c2, rfl, m2, p2⟩ := Kd.R_reads r2
        obtain ⟨A3, c3, rfl, m3, p3⟩ := Kd.R_reads r3
        have HLa := Aside0.mk (HLr.out.ch hC (fun h => h) (fun h => h))
        have HCa := Aside0.mk (hC.below (fun _ _ h => h) (Nat.le_refl _))
        have P1 := Aside0.mk p1
        have P2 := Aside0.mk p2
        have P3 := Aside0.mk p3
        have M1 := Aside0.mk m1
        have M2 := Aside0.mk m2
        have M3 := Aside0.mk m3
        have a1 : wa.cell? (ad0.add i.toNat) = some (.string tx) := (World.cell?_of_block (hC.block _ hbl (fun h => h))).trans a0
        have hbl2 := World.block_lt_of_cell? wa _ a1
        have HA := Aside0.mk a1
        clear hC p1 p2 p3 m1 m2 m3 r1 r2 r3 a0 hbl
        have k1_ := bx_al (blk_new wa (.cells #[.string rr.1.f0, .slice A1 rr.1.f1.length c1, .slice A2 rr.1.f2.length c2, .slice A3 rr.1.f3.length c3] 29)) (.cells #[.int .i64 rr.2.1, .int .i64 0, .int .i64 rr.2.2, .string ⟨#[]⟩] 32)
        have k2_ := blk_new (wa.alloc (.cells #[.string rr.1.f0, .slice A1 rr.1.f1.length c1, .slice A2 rr.1.f2.length c2, .slice A3 rr.1.f3.length c3] 29)) (.cells #[.int .i64 rr.2.1, .int .i64 0, .int .i64 rr.2.2, .string ⟨#[]⟩] 32)
        simp only [World.size_alloc] at k2_
        have KK1 := Aside0.mk k1_
        have KK2 := Aside0.mk k2_
        have HLb := Aside0.mk ((HLa.out.al (.cells #[.string rr.1.f0, .slice A1 rr.1.f1.length c1, .slice A2 rr.1.f2.length c2, .slice A3 rr.1.f3.length c3] 29)).al (.cells #[.int .i64 rr.2.1, .int .i64 0, .int .i64 rr.2.2, .string ⟨#[]⟩] 32))
        clear k1_ k2_
        go_wp2_with fail
        refine (scan_Tokens.calls kk _ l at_ er _ HS.out HLb.out).mono ?_
        rintro e w2 ⟨v0, rfl, hR, hB⟩
        obtain ⟨A7, n7, c7, rfl⟩ := R_slice3 hR
        have hn7 : n7 = l.length := by obtain ⟨_, _, e⟩ := Kd.R_slice hR; injection e
        subst hn7
        have HNc := Aside0.mk (Kd.R_reads' hR).2.1
        have HF := Aside0.mk (Kd.F_mono (Kd.F_bound (Kd.R_F hR)) (fun k hk => hk.2))
        have HB2 := Aside0.mk hB
        have HW2 := Aside0.mk (below_tr (show Below wa.heap.size wa ((wa.alloc (.cells #[.string rr.1.f0, .slice A1 rr.1.f1.length c1, .slice A2 rr.1.f2.length c2, .slice A3 rr.1.f3.length c3] 29)).alloc (.cells #[.int .i64 rr.2.1, .int .i64 0, .int .i64 rr.2.2, .string ⟨#[]⟩] 32)) from bel) (by simp only [World.size_alloc]; omega) hB)
        have HL2 := Aside0.mk (HLb.out.ch (Ch.of_below hB (fun _ => False)) (fun h => h) (fun h => h))
        have hs2 : wa.heap.size + 2 ≤ w2.heap.size := by have := hB.size; simpa using this
        obtain ⟨px, pxf, pxl⟩ := pcell ((hB.block _ (by simp only [World.size_alloc]; omega)).trans KK1.out)
        have x0 : w2.cell? ⟨wa.heap.size, 0, none⟩ = some (.string rr.1.f0) := px 0 _ rfl
        have x1 : w2.cell? ⟨wa.heap.size, 1, none⟩ = some (.slice A1 rr.1.f1.length c1) := px 1 _ rfl
        have x2 : w2.cell? ⟨wa.heap.size, 2, none⟩ = some (.slice A2 rr.1.f2.length c2) := px 2 _ rfl
        have x3 : w2.cell? ⟨wa.heap.size, 3, none⟩ = some (.slice A3 rr.1.f3.length c3) := px 3 _ rfl
        clear px pxf
        obtain ⟨py, pyf, pyl⟩ := pcell ((hB.block _ (by simp only [World.size_alloc]; omega)).trans KK2.out)
        have y0 : w2.cell? ⟨wa.heap.size + 1, 0, none⟩ = some (.int .i64 rr.2.1) := py 0 _ rfl
        have y1 : w2.cell? ⟨wa.heap.size + 1, 1, none⟩ = some (.int .i64 0) := py 1 _ rfl
        have y2 : w2.cell? ⟨wa.heap.size + 1, 2, none⟩ = some (.int .i64 rr.2.2) := py 2 _ rfl
        have y3 : w2.cell? ⟨wa.heap.size + 1, 3, none⟩ = some (.string ⟨#[]⟩) := py 3 _ rfl
        clear py pyf
        have hl1 : wa.heap.size < w2.heap.size := by omega
        have hl2 : wa.heap.size + 1 < w2.heap.size := by omega
        clear hR hB
        by_cases he : er = 0
        · have hb : (er == 0) = true := beq_iff_eq.mpr he
          have hb2 : (er != 0) = false := by simp [he]
          have hr0 : r0 = rr := by rw [HRr.out, if_pos he]
          have HT2 := Aside0.mk (show Pm.tokens2 kk l = some rr by rw [← hr0]; exact HT.out)
          clear he hr0 hbl2 a1
          go_wp2_with fail
          refine (tokens_calls kk l rr HT2.out w2 HL2.out A7 c7 HNc.out HF.out).mono ?_
          rintro e w3 ⟨v4, v5, v6, rfl, s1, s2, s3, hC3⟩
          obtain ⟨D1, u1, rfl, n1, q1⟩ := Kd.R_reads s1
          obtain ⟨D2, u2, rfl, n2, q2⟩ := Kd.R_reads s2
          obtain ⟨D3, u3, rfl, n3, q3⟩ := Kd.R_reads s3
          have hB3 : Below w2.heap.size w2 w3 := hC3.below (fun _ _ h => h) (Nat.le_refl _)
          have Q1 := Aside0.mk q1
          have Q2 := Aside0.mk q2
          have Q3 := Aside0.mk q3
          have N1 := Aside0.mk n1
          have N2 := Aside0.mk n2
          have N3 := Aside0.mk n3
          have HW3 := Aside0.mk (below_tr HW2.out HW2.out.size hB3)
          clear x0 x1 x2 x3 y0 y1 y2 y3
          obtain ⟨px, pxf, pxl⟩ := pcell ((hB3.block _ (by omega)).trans ((HB2.out.block _ (by simp only [World.size_alloc]; omega)).trans KK1.out))
          have x0 : w3.cell? ⟨wa.heap.size, 0, none⟩ = some (.string rr.1.f0) := px 0 _ rfl
          have x1 : w3.cell? ⟨wa.heap.size, 1, none⟩ = some (.slice A1 rr.1.f1.length c1) := px 1 _ rfl
          have x2 : w3.cell? ⟨wa.heap.size, 2, none⟩ = some (.slice A2 rr.1.f2.length c2) := px 2 _ rfl
          have x3 : w3.cell? ⟨wa.heap.size, 3, none⟩ = some (.slice A3 rr.1.f3.length c3) := px 3 _ rfl
          clear px pxf
          obtain ⟨py, pyf, pyl⟩ := pcell ((hB3.block _ (by omega)).trans ((HB2.out.block _ (by simp only [World.size_alloc]; omega)).trans KK2.out))
          have y0 : w3.cell? ⟨wa.heap.size + 1, 0, none⟩ = some (.int .i64 rr.2.1) := py 0 _ rfl
          have y1 : w3.cell? ⟨wa.heap.size + 1, 1, none⟩ = some (.int .i64 0) := py 1 _ rfl
          have y2 : w3.cell? ⟨wa.heap.size + 1, 2, none⟩ = some (.int .i64 rr.2.2) := py 2 _ rfl
          have y3 : w3.cell? ⟨wa.heap.size + 1, 3, none⟩ = some (.string ⟨#[]⟩) := py 3 _ rfl
          clear py pyf
          have hs3 := hB3.size
          have hl3 : wa.heap.size < w3.heap.size := by omega
          have hl4 : wa.heap.size + 1 < w3.heap.size := by omega
          have k3_ := bx_al (blk_new w3 (.cells #[.string rr.1.f0, .slice D1 rr.1.f1.length u1, .slice D2 rr.1.f2.length u2, .slice D3 rr.1.f3.length u3] 29)) (.cells #[.int .i64 rr.2.1, .int .i64 0, .int .i64 rr.2.2, .string ⟨#[]⟩] 32)
          have k4_ := blk_new (w3.alloc (.cells #[.string rr.1.f0, .slice D1 rr.1.f1.length u1, .slice D2 rr.1.f2.length u2, .slice D3 rr.1.f3.length u3] 29)) (.cells #[.int .i64 rr.2.1, .int .i64 0, .int .i64 rr.2.2, .string ⟨#[]⟩] 32)
          clear q1 q2 q3 n1 n2 n3 s1 s2 s3 hC3 k3_ k4_ hB3
          go_wp2_with fail
          refine (sameFile_eq 33 rr.1 HSr.out A1 A2 A3 D1 D2 D3 c1 c2 c3 u1 u2 u3 _ (Kd.C_below (Kd.C_below P1.out HW3.out) bel) (Kd.C_below (Kd.C_below P2.out HW3.out) bel) (Kd.C_below (Kd.C_below P3.out HW3.out) bel) (Kd.C_below Q1.out bel) (Kd.C_below Q2.out bel) (Kd.C_below Q3.out bel) M1.out M2.out M3.out N1.out N2.out N3.out).mono ?_
          rintro e w4 ⟨rfl, hB4⟩
          have HB4 := Aside0.mk (show Below w3.heap.size w3 w4 from below_tr (show Below w3.heap.size w3 ((w3.alloc (.cells #[.string rr.1.f0, .slice D1 rr.1.f1.length u1, .slice D2 rr.1.f2.length u2, .slice D3 rr.1.f3.length u3] 29)).alloc (.cells #[.int .i64 rr.2.1, .int .i64 0, .int .i64 rr.2.2, .string ⟨#[]⟩] 32)) from bel) (by simp only [World.size_alloc]; omega) hB4)
          clear hB4
          go_wp2
          go_roundg k1
          case measure => have := HK.out; omega
          case rel => exact ⟨wrap64 (i + 1), by first | rfl | (simp; done), ⟨by rw [w64_in _ (by have := HK.out; have := HW.out; omega)]; have := HK.out; omega⟩, ⟨below_tr (below_tr (below_tr HB.out HB.out.size HCa.out) (Nat.le_trans HB.out.size HCa.out.size) HW3.out) (Nat.le_trans (Nat.le_trans HB.out.size HCa.out.size) HW3.out.size) HB4.out⟩⟩
        · have hb : (er == 0) = false := beq_eq_false_iff_ne.mpr he
          have hb2 : (er != 0) = true := by simp [he]
          have hr1 : rr = (Pm.zfile, er, at_) := by rw [HRr.out, if_neg he]
          subst hr1
          clear he hbl2 a1
          go_wp2_with fail
          refine (sameFile_eq 33 Pm.zfile HSr.out A1 A2 A3 none none none c1 c2 c3 0 0 0 _ (Kd.C_below P1.out HW2.out) (Kd.C_below P2.out HW2.out) (Kd.C_below P3.out HW2.out) (Kd.C_nil _ _) (Kd.C_nil _ _) (Kd.C_nil _ _) M1.out M2.out M3.out (Nat.le_refl 0) (Nat.le_refl 0) (Nat.le_refl 0)).mono ?_
          rintro e w4 ⟨rfl, hB4⟩
          have HB4 := Aside0.mk hB4
          clear hB4
          go_wp2
          go_roundg k1
          case measure => have := HK.out; omega
          case rel => exact ⟨wrap64 (i + 1), by first | rfl | (simp; done), ⟨by rw [w64_in _ (by have := HK.out; have := HW.out; omega)]; have := HK.out; omega⟩, ⟨below_tr (below_tr (below_tr HB.out HB.out.size HCa.out) (Nat.le_trans HB.out.size HCa.out.size) HW2.out) (Nat.le_trans (Nat.le_trans HB.out.size HCa.out.size) HW2.out.size) HB4.out⟩⟩
  · rw [if_neg hp] at h
    cases h
end Go.Proofs.YtgkodenllfpajaaDoor.A
end
